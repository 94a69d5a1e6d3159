/- The walk of the reference's Same: whether two lists are the same. No condition. -/
import Derived.Test.YtlkiogjjhhafnaaFirst
namespace Go.Proofs.Ytlkiogjjhhafnaa
open Go.RowKit
attribute [local go_sem] ite_max ite_min
attribute [local go_sem] h_lt1 h_lt2 h_lt3 h_lt4 h_lt5 h_lt6 h_eq1 h_qe1 h_eq2 h_qe2 h_eq3 h_qe3 h_eq4 h_qe4 h_eq5 h_qe5 h_eq6 h_qe6

theorem take_same {l m : List Int} {k : Nat} (h : l.take k = m.take k) (hl : k < l.length) (hm : k < m.length) (he : l[k] = m[k]) : l.take (k + 1) = m.take (k + 1) := by
  rw [take_succ_ l k hl, take_succ_ m k hm, h, he]
set_option maxHeartbeats 4000000 in
theorem same10 (v1 v2 : Value) (l m : List Int) (w : World) (h1 : Arr w 1 v1 l.length (l.map iv)) (h2 : Arr w 1 v2 m.length (m.map iv)) : Gives Try.prog 10 #[v1, v2] w (.bool (decide (l = m))) := by
  apply gives_of
  by_cases hlen : l.length = m.length
  rotate_left
  · obtain ⟨_, a1, c1, rfl, _⟩ := h1
    obtain ⟨_, a2, c2, rfl, _⟩ := h2
    have hne : ((l.length : Int) != (m.length : Int)) = true := bne_iff_ne.2 (fun h => hlen (by exact_mod_cast h))
    rw [decide_eq_false (fun h => hlen (by rw [h]))]
    (go_enter Try.func10, Try.ntmps10; go_wp2_with (fail))
    go_ret
    exact ⟨rfl, by repeat (first | (with_reducible exact Later.refl _) | with_reducible apply Later.latr | with_reducible apply Later.alloc | with_reducible apply Later.drew | (with_reducible refine Later.set ?_ (by (simp; try omega)) _))⟩
  obtain ⟨_, a1, c1, rfl, _, hx1, hk1⟩ := h1
  obtain ⟨_, a2, c2, rfl, _, hx2, hk2⟩ := h2
  have heq : ((l.length : Int) != (m.length : Int)) = false := by simp [hlen]
  unfold maxLen at hx1
  have HK1 := hid hk1
  have HK2 := hid hk2
  clear hk1 hk2
  (go_enter Try.func10, Try.ntmps10; go_wp2_with (fail))
  go_loopw [5] (fun i wr => ∃ k : Nat, k ≤ l.length ∧ i = .int .i64 k ∧ Later w wr ∧ l.take k = m.take k) (fun i _ => l.length - (intOf i).toNat)
  case atStart => exact ⟨0, Nat.zero_le _, rfl, Later.refl _, rfl⟩
  case round =>
    obtain ⟨k, hk, rfl, hl, hs⟩ := hrel
    by_cases hlt : k < l.length
    · have hkm : k < m.length := by omega
      obtain ⟨b1, o1, rfl, hb1, hc1⟩ := HK1.out (by omega)
      obtain ⟨b2, o2, rfl, hb2, hc2⟩ := HK2.out (by omega)
      have g1 : wr.cell? ⟨b1, o1 + k, none⟩ = some (.int .i64 l[k]) := (hl.cell hb1).trans (hc1 k _ (by simp [hlt]))
      have g2 : wr.cell? ⟨b2, o2 + k, none⟩ = some (.int .i64 m[k]) := (hl.cell hb2).trans (hc2 k _ (by simp [hkm]))
      have hb1' : b1 < wr.heap.size := Nat.lt_of_lt_of_le hb1 hl.size
      have hb2' : b2 < wr.heap.size := Nat.lt_of_lt_of_le hb2 hl.size
      have hp := take_same hs hlt hkm
      have hq : l[k] ≠ m[k] → l ≠ m := fun h h' => h (by subst h'; rfl)
      clear hc1 hc2 hs
      generalize l[k] = x at *
      generalize m[k] = y at *
      have HL := hid hl
      clear hl
      by_cases he : x = y
      · have d1 : (x != y) = false := by simpa using he
        have HP := hid (hp he)
        clear hp hq he
        go_wp2_with (fail)
        (refine wp_region_calm (by kernel_rfl) (by kernel_rfl) ?_; (repeat (go_big_quiet_step ((fail)))); refine wpQuiet_nil ?_; rintro _ ⟨x, rfl⟩; go_wp2_with (fail))
        go_roundw
        case rel => exact ⟨k + 1, by omega, by go_num, HL.out.latr _, HP.out⟩
        case measure => simp [intOf]; omega
      · have d1 : (x != y) = true := by simpa using he
        have hd : decide (l = m) = false := decide_eq_false (hq he)
        clear hp hq he
        go_wp2_with (fail)
        (refine wp_region_calm (by kernel_rfl) (by kernel_rfl) ?_; (repeat (go_big_quiet_step ((fail)))); refine wpQuiet_nil ?_; rintro _ ⟨x, rfl⟩; go_wp2_with (fail))
        go_ret
        exact ⟨by rw [hd]; rfl, by repeat (first | (with_reducible exact Later.refl _) | (with_reducible exact HL.out) | with_reducible apply Later.latr | with_reducible apply Later.alloc | with_reducible apply Later.drew | (with_reducible refine Later.set ?_ (by (simp; try omega)) _))⟩
    · obtain rfl : k = l.length := by omega
      have hd : decide (l = m) = true := by
        rw [List.take_length, hlen, List.take_length] at hs
        exact decide_eq_true hs
      have HL := hid hl
      clear hl hs
      go_wp2_with (fail)
      go_ret
      exact ⟨by rw [hd]; rfl, by repeat (first | (with_reducible exact Later.refl _) | (with_reducible exact HL.out) | with_reducible apply Later.latr | with_reducible apply Later.alloc | with_reducible apply Later.drew | (with_reducible refine Later.set ?_ (by (simp; try omega)) _))⟩
end Go.Proofs.Ytlkiogjjhhafnaa
