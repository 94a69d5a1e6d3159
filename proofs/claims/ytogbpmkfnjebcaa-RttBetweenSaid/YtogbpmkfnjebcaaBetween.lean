/- The walk of RttBetween: it answers true. Times are those of a uint16. -/
import Derived.Test.YtogbpmkfnjebcaaSame
import Derived.Deep.RegionLaw
namespace Go.Proofs.Ytogbpmkfnjebcaa
open Go.RowKit
attribute [local go_sem] ite_max ite_min

/-- the least, and the greatest, of the first answers -/
def low (ps : List (Int × Int)) : Int := ps.foldl (fun a p => min a p.1) 1048576
def high (ps : List (Int × Int)) : Int := ps.foldl (fun a p => max a p.1) 0
theorem low_snoc (ps : List (Int × Int)) (x : Int × Int) : low (ps ++ [x]) = min (low ps) x.1 := by simp [low]
theorem high_snoc (ps : List (Int × Int)) (x : Int × Int) : high (ps ++ [x]) = max (high ps) x.1 := by simp [high]

theorem flatMap_two (ps : List (Int × Int)) : ∀ (k : Nat) (h : k < ps.length), (ps.flatMap fun a => [Value.int .u16 a.1, Value.int .u16 a.2])[k * 2]? = some (.int .u16 ps[k].1) ∧ (ps.flatMap fun a => [Value.int .u16 a.1, Value.int .u16 a.2])[k * 2 + 1]? = some (.int .u16 ps[k].2) := by
  induction ps with
  | nil => intro k h; simp at h
  | cons a l ih =>
    intro k h
    cases k with
    | zero => exact ⟨rfl, rfl⟩
    | succ k =>
      have := ih k (by simpa using h)
      rw [show (k + 1) * 2 = k * 2 + 1 + 1 by omega]
      exact this

theorem between_law (ps : List (Int × Int)) (hb : ∀ p ∈ ps, (0 ≤ p.1 ∧ p.1 ≤ 65535) ∧ 0 ≤ p.2 ∧ p.2 ≤ 65535) (k : Nat) (hk : k ≤ ps.length) :
    0 ≤ low (ps.take k) ∧ low (ps.take k) ≤ 1048576 ∧ 0 ≤ high (ps.take k) ∧ high (ps.take k) ≤ 65535 ∧
    (0 < k → (runR (ps.take k) r0).has = true ∧ (runR (ps.take k) r0).l = low (ps.take k) ∧ low (ps.take k) ≤ (runR (ps.take k) r0).s ∧ (runR (ps.take k) r0).s ≤ high (ps.take k) ∧ 0 ≤ (runR (ps.take k) r0).v ∧ (runR (ps.take k) r0).v ≤ high (ps.take k)) := by
  induction k with
  | zero => simp [low, high]
  | succ k ih =>
    have hlt : k < ps.length := by omega
    obtain ⟨i1, i2, i3, i4, i5⟩ := ih (by omega)
    obtain ⟨⟨p0, p1⟩, q0, q1⟩ := hb ps[k] (List.getElem_mem hlt)
    rw [take_succ_ ps k hlt, low_snoc, high_snoc, runR_snoc]
    have hd := cl_bd ps[k].2 25 (by omega)
    have low0 : k = 0 → low (ps.take k) = 1048576 ∧ high (ps.take k) = 0 := fun h => by subst h; exact ⟨rfl, rfl⟩
    generalize ps[k] = x at *
    generalize low (ps.take k) = L at *
    generalize high (ps.take k) = H at *
    by_cases h0 : 0 < k
    · obtain ⟨g1, g2, g3, g4, g5, g6⟩ := i5 h0
      generalize runR (ps.take k) r0 = r at *
      have e1 : cl x.1 1099511627776 = x.1 := cl_id _ _ p0 (by omega)
      have e2 : cl r.l 1099511627776 = L := by rw [g2]; exact cl_id _ _ i1 (by omega)
      have e3 : cl r.s 1099511627776 = r.s := cl_id _ _ (by omega) (by omega)
      have e4 : cl r.v 1099511627776 = r.v := cl_id _ _ g5 (by omega)
      unfold stepR step
      rw [if_pos g1, e1, e2, e3, e4]
      simp only []
      generalize cl x.2 25 = d at *
      have ho : min L x.1 ≤ ownT (min L x.1) x.1 d ∧ ownT (min L x.1) x.1 d ≤ x.1 := by unfold ownT; split <;> omega
      generalize ownT (min L x.1) x.1 d = o at *
      refine ⟨by omega, by omega, by omega, by omega, fun _ => ⟨trivial, trivial, by omega, by omega, by omega, by omega⟩⟩
    · obtain rfl : k = 0 := by omega
      have e1 : cl x.1 1099511627776 = x.1 := cl_id _ _ p0 (by omega)
      have hr : stepR (runR (ps.take 0) r0) x.1 x.2 = { has := true, l := x.1, s := x.1, v := x.1 / 2 } := by
        show stepR r0 x.1 x.2 = _
        unfold stepR step
        rw [e1]
        rfl
      rw [hr]
      simp only []
      refine ⟨by omega, by omega, by omega, by omega, fun _ => ⟨trivial, ?_, ?_, by omega, by omega, by omega⟩⟩
      all_goals (have := low0 rfl; omega)

set_option maxHeartbeats 8000000 in
set_option maxRecDepth 100000 in
theorem between5 (v : Value) (ps : List (Int × Int)) (w : World) (hv : Arr w 2 v ps.length (ps.flatMap fun a => [.int .u16 a.1, .int .u16 a.2])) (hps : ∀ p ∈ ps, (0 ≤ p.1 ∧ p.1 ≤ 65535) ∧ 0 ≤ p.2 ∧ p.2 ≤ 65535) :
    Calls Try.prog 5 #[v] w fun e w' => e = .returned (.bool true) ∧ Later w w' := by
  obtain ⟨i0, hi0, hz0, hz1, hz2⟩ := info_parts info29
  by_cases h100 : 100 < ps.length
  · obtain ⟨_, a, cap, rfl, _⟩ := hv
    have hne : ((ps.length : Int) == 0) = false := beq_eq_false_iff_ne.2 (by omega)
    go_enter Try.func5, Try.ntmps5
    go_wp2_with (first
      | (go_at_call 8; refine (awake8 _).mono ?_; rintro e w1 ⟨rfl, x1, rfl⟩))
    go_ret
    exact ⟨rfl, (Later.refl w).latr _⟩
  rcases arr_cases hv with ⟨a, cap, rfl, h0, _, hmax⟩ | ⟨b, off, cap, rfl, hpos, hlen, hb, hcap, hmax, hcell⟩
  · obtain rfl : ps = [] := List.eq_nil_of_length_eq_zero h0
    go_enter Try.func5, Try.ntmps5
    go_wp2_with (first
      | (go_at_call 8; refine (awake8 _).mono ?_; rintro e w1 ⟨rfl, x1, rfl⟩))
    go_ret
    exact ⟨rfl, (Later.refl w).latr _⟩
  have HC := hid hcell
  have HP := hid hps
  have HW := hid (between_law ps hps)
  clear hcell hv hps
  have hne : ((ps.length : Int) == 0) = false := beq_eq_false_iff_ne.2 (by omega)
  go_enter Try.func5, Try.ntmps5
  go_wp2_with (first
    | (go_at_call 8; refine (awake8 _).later.mono ?_; rintro e w1 ⟨rfl, hl1⟩))
  go_loopw [4, 5, 6, 7] (fun l lo hi i wr => ∃ (k : Nat) (a : Option Addr) (c : Nat), k ≤ ps.length ∧ i = .int .i64 k ∧ l = .slice a k c ∧ lo = .int .i64 (low (ps.take k)) ∧ hi = .int .i64 (high (ps.take k)) ∧ Later w wr ∧
      wr.ownsRow w.heap.size 29 2 (.slice a k c) k (pairs (ps.take k))) (fun _ _ _ i _ => ps.length - (intOf i).toNat)
  case atStart => exact ⟨0, none, 0, Nat.zero_le _, rfl, rfl, rfl, rfl, hl1, World.ownsRow_nil _ _ _ _⟩
  case round =>
    obtain ⟨k, a, c, hk, rfl, rfl, rfl, rfl, hlr, ho⟩ := hrel
    by_cases hlt : k < ps.length
    · have hat := (flatMap_two ps k hlt)
      have c0 : wr.cell? ⟨b, off + k * 2, none⟩ = some (.int .u16 ps[k].1) := (hlr.cell hb).trans (HC.out _ _ hat.1)
      have c1 : wr.cell? ⟨b, off + k * 2 + 1, none⟩ = some (.int .u16 ps[k].2) := (hlr.cell hb).trans (HC.out _ _ hat.2)
      clear hat
      have hbw : b < wr.heap.size := Nat.lt_of_lt_of_le hb hlr.size
      obtain ⟨⟨p0, p1⟩, q0, q1⟩ := HP.out ps[k] (List.getElem_mem hlt)
      have hlw := HW.out k hk
      have HLs := hid (low_snoc (ps.take k) ps[k])
      have HHs := hid (high_snoc (ps.take k) ps[k])
      have HPs := hid (pairs_snoc (ps.take k) ps[k])
      rw [← take_succ_ ps k hlt] at HLs HHs HPs
      obtain ⟨m0, m1, m2, m3, _⟩ := hlw
      generalize low (ps.take k) = L at *
      generalize high (ps.take k) = H at *
      generalize ps[k] = x at *
      have hi : (k : Int) < (ps.length : Int) := by omega
      go_wp2_with (fail)
      have wx0 : IntKind.i64.wrap x.1 = x.1 := IntWalk.i64_in _ (by omega)
      have wx1 : IntKind.i64.wrap x.2 = x.2 := IntWalk.i64_in _ (by omega)
      go_region_law (refine step_append_own _ rfl (.tmp 25) (.tmp 39) 28 rfl w.heap.size 29 i0 _ 2 16 Try.underlying28 hi0 hz0 hz1 hz2 rfl (by decide) _ k _ rfl (ho.alloc _) _ 1 _ [.int .i64 x.1, .int .i64 x.2] rfl rfl (by intro j u hu; rw [← hu]; rcases j with _ | _ | j <;> simp [go_sem]) (by simp [Value.oneCell']) (by unfold maxLen; omega) (by omega) (by simp; have := hlr.size; omega) ?_; intro v1 w2 hown1 hg1)
      all_goals
        have hl2 := Later.grown (Later.drew (Later.alloc hlr _)) hg1 (own_lt ho (Nat.le_refl _))
        have d0 : w2.cell? ⟨b, off + k * 2, none⟩ = some (.int .u16 x.1) := (hl2.cell hb).trans ((hlr.cell hb).symm.trans c0)
        have hb2 : b < w2.heap.size := Nat.lt_of_lt_of_le hb hl2.size
        clear hg1
        go_wp2_with (fail)
        go_roundw
        case rel =>
          obtain ⟨a', c', rfl⟩ := own_is_slice hown1
          refine ⟨k + 1, a', c', by omega, by go_num, rfl, by rw [HLs.out], by rw [HHs.out], hl2, ?_⟩
          rw [HPs.out]
          exact hown1
        case measure => simp [intOf]; omega
    · obtain rfl : k = ps.length := by omega
      obtain ⟨wo, rfl⟩ : ∃ wo : World, wo = wr := ⟨_, rfl⟩
      obtain ⟨m0, m1, m2, m3, m4⟩ := HW.out ps.length (Nat.le_refl _)
      obtain ⟨g1, g2, g3, g4, g5, g6⟩ := m4 hpos
      rw [List.take_length] at *
      have hR := run15 (.slice a ps.length c) ps wo (Arr.of_own ho)
      generalize low ps = L at *
      generalize high ps = H at *
      generalize runR ps r0 = r at *
      obtain ⟨has, l, sm, vr⟩ := r
      simp only [] at g1 g2 g3 g4 g5 g6 hR
      subst g1 g2
      have HR := hid hR
      have HL := hid hlr
      clear hR m4
      go_wp2_with (first
        | (go_at_call 15; refine HR.out.mono ?_; rintro e w2 ⟨rfl, x2, rfl⟩))
      all_goals go_ret
      all_goals exact ⟨rfl, by repeat (first | (with_reducible exact HL.out) | with_reducible apply Later.latr | with_reducible apply Later.alloc | with_reducible apply Later.drew)⟩
end Go.Proofs.Ytogbpmkfnjebcaa
