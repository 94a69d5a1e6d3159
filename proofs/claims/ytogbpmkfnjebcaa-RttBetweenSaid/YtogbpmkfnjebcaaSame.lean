/- The walks of RttSame and RttBetween: each answers true. Times are those of a uint16. -/
import Derived.Test.YtogbpmkfnjebcaaAwake
import Derived.Test.YtogbpmkfnjebcaaOwn
namespace Go.Proofs.Ytogbpmkfnjebcaa
open Go.RowKit
attribute [local go_sem] ite_max ite_min

theorem info29 : (Try.prog.info? 29).map (fun i => (i.zero, i.size, i.bytes)) = some (some (.agg #[.int .i64 0, .int .i64 0]), 2, 16) := by kernel_rfl

/-- how far answers that are all the same are from the mean, behind so many -/
def fall (t : Int) : Nat → Int
  | 0 => t / 2
  | k + 1 => 3 * fall t k / 4
theorem fall_bd (t : Int) (h0 : 0 ≤ t) (h1 : t ≤ 65535) (k : Nat) : 0 ≤ fall t k ∧ fall t k ≤ 65535 := by
  induction k with
  | zero => unfold fall; omega
  | succ k ih => unfold fall; omega

theorem same_law (t : Int) (h0 : 0 ≤ t) (h1 : t ≤ 65535) (k : Nat) : runR (List.replicate (k + 1) (t, 0)) r0 = { has := true, l := t, s := t, v := fall t k } := by
  induction k with
  | zero =>
    show stepR r0 t 0 = _
    simp only [stepR, step, r0, cl_id t _ h0 (show t ≤ 1099511627776 by omega), fall]
    rfl
  | succ k ih =>
    rw [List.replicate_succ', runR_snoc, ih]
    have hf := fall_bd t h0 h1 k
    simp only [stepR, step, if_true, cl_id t _ h0 (show t ≤ 1099511627776 by omega), cl_id (fall t k) _ hf.1 (show fall t k ≤ 1099511627776 by omega), cl_id 0 25 (by omega) (by omega)]
    have e1 : min t t = t := by omega
    have e2 : ownT t t 0 = t := by unfold ownT; split <;> omega
    rw [e1, e2]
    have e3 : (7 * t + t) / 8 = t := by omega
    have e4 : (3 * fall t k + max (t - t) (t - t)) / 4 = fall t (k + 1) := by show _ = 3 * fall t k / 4; omega
    rw [e3, e4]

set_option maxHeartbeats 4000000 in
theorem same7 (t many : Int) (w : World) (h0 : 0 ≤ t) (h1 : t ≤ 65535) (m0 : 0 ≤ many) (m1 : many ≤ 255) :
    Calls Try.prog 7 #[.int .u16 t, .int .u8 many] w fun e w' => e = .returned (.bool true) ∧ Later w w' := by
  obtain ⟨i0, hi0, hz0, hz1, hz2⟩ := info_parts info29
  obtain ⟨n, hn⟩ : ∃ n : Nat, (n : Int) = many % 60 := ⟨(many % 60).toNat, by omega⟩
  have hn60 : n < 60 := by omega
  have HN := hid hn
  clear hn
  go_enter Try.func7, Try.ntmps7
  go_wp2_with (first
    | (go_at_call 8; refine (awake8 _).later.mono ?_; rintro e w1 ⟨rfl, hl1⟩))
  go_loopw [6, 7] (fun l i wr => ∃ (k : Nat) (a : Option Addr) (c : Nat), k ≤ n + 1 ∧ i = .int .i64 k ∧ l = .slice a k c ∧ Later w wr ∧ wr.ownsRow w.heap.size 29 2 (.slice a k c) k (pairs (List.replicate k (t, 0)))) (fun _ i _ => n + 1 - (intOf i).toNat)
  case atStart => exact ⟨0, none, 0, Nat.zero_le _, rfl, rfl, hl1, World.ownsRow_nil _ _ _ _⟩
  case round =>
    obtain ⟨k, a, c, hk, rfl, rfl, hlr, ho⟩ := hrel
    by_cases hlt : k < n + 1
    · have hlt' : (k : Int) < 1 + many % 60 := by have := HN.out; omega
      have hsn := hid (pairs_snoc (List.replicate k (t, 0)) (t, 0))
      go_wp2_with (first
        | (at_builtin
           refine append_new rfl (.tmp 20) (.tmp 24) 28 rfl w.heap.size 29 i0 _ 2 16 Try.underlying28 hi0 hz0 hz1 hz2 rfl (by decide) _ 29 _ k _ rfl ho _ 1 [_, _] rfl rfl rfl (by simp [Value.oneCell']) (by unfold maxLen; omega) (by omega) hlr.size ?_
           intro v1 w2 hown1 hg1
           have hl2 := hlr.grown hg1 (own_lt ho (Nat.le_refl _))))
      go_roundw
      case rel =>
        obtain ⟨a', c', rfl⟩ := own_is_slice hown1
        refine ⟨k + 1, a', c', by omega, by go_num, rfl, hl2, ?_⟩
        rw [List.replicate_succ', hsn.out]
        exact hown1
      case measure => simp [intOf]; omega
    · obtain rfl : k = n + 1 := by omega
      have hge' : 1 + many % 60 ≤ ((n + 1 : Nat) : Int) := by have := HN.out; omega
      obtain ⟨wo, rfl⟩ : ∃ wo : World, wo = wr := ⟨_, rfl⟩
      have hR := run15 (.slice a (n + 1) c) (List.replicate (n + 1) (t, 0)) wo (by rw [List.length_replicate]; exact Arr.of_own ho)
      rw [same_law t h0 h1 n] at hR
      have HR := hid hR
      clear hR
      have hfb := fall_bd t h0 h1
      have HF := hid hfb
      clear hfb
      go_wp2_with (first
        | (go_at_call 15; refine HR.out.mono ?_; rintro e w2 ⟨rfl, x2, rfl⟩))
      go_loop [9, 10] (fun f i => ∃ k : Nat, k ≤ n ∧ i = .int .i64 ((k : Int) + 1) ∧ f = .int .i64 (fall t k)) (fun _ i => n + 1 - (intOf i).toNat)
      case atStart => exact ⟨0, Nat.zero_le _, rfl, rfl⟩
      case round =>
        obtain ⟨k, hk, rfl, rfl⟩ := hrel
        obtain ⟨b0, b1⟩ := HF.out k
        have hs := hid (show fall t (k + 1) = 3 * fall t k / 4 from rfl)
        by_cases hlt : k < n
        · have hlt' : (k : Int) < (n : Int) := by omega
          generalize fall t k = q at *
          go_wp2
          go_round
          case rel => exact ⟨k + 1, by omega, by go_num, by rw [hs.out]⟩
          case measure => simp [intOf]; omega
        · obtain rfl : k = n := by omega
          generalize fall t k = q at *
          go_wp2
          all_goals go_ret
          all_goals exact ⟨rfl, by repeat (first | (with_reducible exact hlr) | with_reducible apply Later.latr | with_reducible apply Later.alloc | with_reducible apply Later.drew)⟩
end Go.Proofs.Ytogbpmkfnjebcaa
