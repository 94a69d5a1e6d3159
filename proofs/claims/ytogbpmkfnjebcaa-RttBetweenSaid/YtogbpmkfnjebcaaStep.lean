/- The walks of rtt.Step, Lost and Probe, and the reference's: each gives what the plain function gives. No condition. -/
import Derived.Test.YtogbpmkfnjebcaaWalks
namespace Go.Proofs.Ytogbpmkfnjebcaa
open Go.RowKit
attribute [local go_sem] ite_max ite_min

set_option maxHeartbeats 2000000 in
theorem step9 (r : Rt) (latest delay : Int) (w : World) :
    Gives Try.prog 9 #[.agg #[.bool r.has, .int .i64 r.l, .int .i64 r.s, .int .i64 r.v], .int .i64 latest, .int .i64 delay] w
      (.agg #[.bool true, .int .i64 (stepR r latest delay).l, .int .i64 (stepR r latest delay).s, .int .i64 (stepR r latest delay).v]) := by
  apply gives_of
  have ht := cl_bd latest 1099511627776 (by omega)
  have hd := cl_bd delay 25 (by omega)
  have ha : ∀ W, Gives Try.prog 16 #[.int .i64 latest, .int .i64 1099511627776] W (.int .i64 (cl latest 1099511627776)) := within16 _ _
  have hb : ∀ W, Gives Try.prog 16 #[.int .i64 delay, .int .i64 25] W (.int .i64 (cl delay 25)) := within16 _ _
  unfold stepR
  generalize cl latest 1099511627776 = t at *
  generalize cl delay 25 = d at *
  have HA := hid ha
  have HB := hid hb
  clear ha hb
  obtain ⟨has, l, s, v⟩ := r
  obtain ⟨t0, t1⟩ := ht
  obtain ⟨d0, d1⟩ := hd
  cases has with
  | false =>
    simp only [step, Bool.false_eq_true, if_false]
    go_enter Try.func9, Try.ntmps9
    go_wp2_with (fail)
    refine (HA.out _).mono ?_
    rintro e w1 ⟨rfl, x1, rfl⟩
    go_wp2_with (fail)
    refine (HB.out _).mono ?_
    rintro e w1 ⟨rfl, x2, rfl⟩
    go_wp2_with (fail)
    go_returns
    exact ⟨rfl, by repeat (first | (with_reducible exact Later.refl _) | with_reducible apply Later.latr | with_reducible apply Later.alloc | with_reducible apply Later.drew | (with_reducible refine Later.set ?_ (by simp) _))⟩
  | true =>
    have hl := cl_bd l 1099511627776 (by omega)
    have hs := cl_bd s 1099511627776 (by omega)
    have hv := cl_bd v 1099511627776 (by omega)
    have hk : ∀ W, Gives Try.prog 17 #[.agg #[.bool true, .int .i64 l, .int .i64 s, .int .i64 v]] W (.agg #[.bool true, .int .i64 (cl l 1099511627776), .int .i64 (cl s 1099511627776), .int .i64 (cl v 1099511627776)]) := known17 l s v
    simp only [step, if_true]
    generalize cl l 1099511627776 = L at *
    generalize cl s 1099511627776 = S at *
    generalize cl v 1099511627776 = V at *
    have HK := hid hk
    clear hk
    obtain ⟨l0, l1⟩ := hl
    obtain ⟨s0, s1⟩ := hs
    obtain ⟨v0, v1⟩ := hv
    by_cases hc : min L t ≤ t - d
    · rw [show ownT (min L t) t d = t - d from if_pos hc]
      go_enter Try.func9, Try.ntmps9
      go_wp2_with (fail)
      refine (HA.out _).mono ?_
      rintro e w1 ⟨rfl, x1, rfl⟩
      go_wp2_with (fail)
      refine (HB.out _).mono ?_
      rintro e w1 ⟨rfl, x2, rfl⟩
      go_wp2_with (fail)
      refine (HK.out _).mono ?_
      rintro e w1 ⟨rfl, x3, rfl⟩
      go_wp2_with (fail)
      go_returns
      exact ⟨rfl, by repeat (first | (with_reducible exact Later.refl _) | with_reducible apply Later.latr | with_reducible apply Later.alloc | with_reducible apply Later.drew | (with_reducible refine Later.set ?_ (by simp) _))⟩
    · rw [show ownT (min L t) t d = t from if_neg hc]
      go_enter Try.func9, Try.ntmps9
      go_wp2_with (fail)
      refine (HA.out _).mono ?_
      rintro e w1 ⟨rfl, x1, rfl⟩
      go_wp2_with (fail)
      refine (HB.out _).mono ?_
      rintro e w1 ⟨rfl, x2, rfl⟩
      go_wp2_with (fail)
      refine (HK.out _).mono ?_
      rintro e w1 ⟨rfl, x3, rfl⟩
      go_wp2_with (fail)
      go_returns
      exact ⟨rfl, by repeat (first | (with_reducible exact Later.refl _) | with_reducible apply Later.latr | with_reducible apply Later.alloc | with_reducible apply Later.drew | (with_reducible refine Later.set ?_ (by simp) _))⟩

set_option maxHeartbeats 2000000 in
theorem step10 (r : Rt) (latest delay : Int) (w : World) :
    Gives Try.prog 10 #[.agg #[.bool r.has, .int .i64 r.l, .int .i64 r.s, .int .i64 r.v], .int .i64 latest, .int .i64 delay] w
      (.agg #[.bool true, .int .i64 (stepR r latest delay).l, .int .i64 (stepR r latest delay).s, .int .i64 (stepR r latest delay).v]) := by
  apply gives_of
  have ht := cl_bd latest 1099511627776 (by omega)
  have hd := cl_bd delay 25 (by omega)
  have ha : ∀ W, Gives Try.prog 18 #[.int .i64 latest] W (.int .i64 (cl latest 1099511627776)) := time18 _
  have hD : cl delay 25 = min (max delay 0) 25 := rfl
  unfold stepR
  generalize cl latest 1099511627776 = t at *
  have HA := hid ha
  clear ha
  obtain ⟨has, l, s, v⟩ := r
  obtain ⟨t0, t1⟩ := ht
  rw [hD] at hd ⊢
  clear hD
  obtain ⟨d0, d1⟩ := hd
  cases has with
  | false =>
    simp only [step, Bool.false_eq_true, if_false]
    go_enter Try.func10, Try.ntmps10
    go_wp2_with (fail)
    refine (HA.out _).mono ?_
    rintro e w1 ⟨rfl, x1, rfl⟩
    go_wp2_with (fail)
    go_returns
    exact ⟨rfl, by repeat (first | (with_reducible exact Later.refl _) | with_reducible apply Later.latr | with_reducible apply Later.alloc | with_reducible apply Later.drew | (with_reducible refine Later.set ?_ (by simp) _))⟩
  | true =>
    have hl := cl_bd l 1099511627776 (by omega)
    have hs := cl_bd s 1099511627776 (by omega)
    have hv := cl_bd v 1099511627776 (by omega)
    have hkl : ∀ W, Gives Try.prog 18 #[.int .i64 l] W (.int .i64 (cl l 1099511627776)) := time18 _
    have hks : ∀ W, Gives Try.prog 18 #[.int .i64 s] W (.int .i64 (cl s 1099511627776)) := time18 _
    have hkv : ∀ W, Gives Try.prog 18 #[.int .i64 v] W (.int .i64 (cl v 1099511627776)) := time18 _
    simp only [step, if_true]
    generalize cl l 1099511627776 = L at *
    generalize cl s 1099511627776 = S at *
    generalize cl v 1099511627776 = V at *
    have HL := hid hkl
    have HS := hid hks
    have HV := hid hkv
    clear hkl hks hkv
    obtain ⟨l0, l1⟩ := hl
    obtain ⟨s0, s1⟩ := hs
    obtain ⟨v0, v1⟩ := hv
    have how : ∀ d : Int, (min L t + d ≤ t → ownT (min L t) t d = t - d) ∧ (¬ min L t + d ≤ t → ownT (min L t) t d = t) := fun d => by
      unfold ownT; constructor <;> intro h <;> split <;> omega
    have HO := hid how
    clear how
    by_cases hc : min L t + min (max delay 0) 25 ≤ t
    · rw [(HO.out _).1 hc]
      go_enter Try.func10, Try.ntmps10
      go_wp2_with (fail)
      refine (HA.out _).mono ?_
      rintro e w1 ⟨rfl, x1, rfl⟩
      go_wp2_with (fail)
      refine (HL.out _).mono ?_
      rintro e w1 ⟨rfl, x2, rfl⟩
      go_wp2_with (fail)
      refine (HS.out _).mono ?_
      rintro e w1 ⟨rfl, x3, rfl⟩
      go_wp2_with (fail)
      refine (HV.out _).mono ?_
      rintro e w1 ⟨rfl, x4, rfl⟩
      go_wp2_with (fail)
      go_returns
      exact ⟨rfl, by repeat (first | (with_reducible exact Later.refl _) | with_reducible apply Later.latr | with_reducible apply Later.alloc | with_reducible apply Later.drew | (with_reducible refine Later.set ?_ (by simp) _))⟩
    · rw [(HO.out _).2 hc]
      go_enter Try.func10, Try.ntmps10
      go_wp2_with (fail)
      refine (HA.out _).mono ?_
      rintro e w1 ⟨rfl, x1, rfl⟩
      go_wp2_with (fail)
      refine (HL.out _).mono ?_
      rintro e w1 ⟨rfl, x2, rfl⟩
      go_wp2_with (fail)
      refine (HS.out _).mono ?_
      rintro e w1 ⟨rfl, x3, rfl⟩
      go_wp2_with (fail)
      refine (HV.out _).mono ?_
      rintro e w1 ⟨rfl, x4, rfl⟩
      go_wp2_with (fail)
      go_returns
      exact ⟨rfl, by repeat (first | (with_reducible exact Later.refl _) | with_reducible apply Later.latr | with_reducible apply Later.alloc | with_reducible apply Later.drew | (with_reducible refine Later.set ?_ (by simp) _))⟩
end Go.Proofs.Ytogbpmkfnjebcaa
