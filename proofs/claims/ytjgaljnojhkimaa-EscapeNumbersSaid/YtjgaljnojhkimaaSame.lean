/- The walk of the reference's Same: whether two lists of acts are the same. No condition. -/
import Derived.Test.YtjgaljnojhkimaaWalks
import Derived.Test.YtjgaljnojhkimaaFrame
namespace Go.Proofs.Ytjgaljnojhkimaa
open Go.RowKit
attribute [local go_sem] ite_max ite_min
attribute [local go_sem] h_lt1 h_lt2 h_lt3 h_lt4 h_lt5 h_lt6 h_eq1 h_qe1 h_eq2 h_qe2 h_eq3 h_qe3 h_eq4 h_qe4 h_eq5 h_qe5 h_eq6 h_qe6

theorem take_same {α : Type} {l m : List α} {k : Nat} (h : l.take k = m.take k) (hl : k < l.length) (hm : k < m.length) (he : l[k] = m[k]) : l.take (k + 1) = m.take (k + 1) := by
  rw [take_succ_ l k hl, take_succ_ m k hm, h, he]
abbrev als (l : List Ac) : List Value := l.flatMap al
theorem als_at (l : List Ac) (k j : Nat) (h : k < l.length) (hj : j < 12) : (als l)[k * 12 + j]? = (al l[k])[j]? := (flatMap_at al 12 (fun _ => rfl) l).2 k j h hj
theorem als_len (l : List Ac) : (als l).length = l.length * 12 := (flatMap_at al 12 (fun _ => rfl) l).1
theorem al_eq (x : Ac) : (⟨x.kind, x.rune, x.mark, x.many, x.p0, x.p1, x.p2, x.p3, x.p4, x.p5, x.p6, x.p7⟩ : Ac) = x := rfl
set_option maxRecDepth 100000 in
set_option maxHeartbeats 8000000 in
theorem same14 (v1 v2 : Value) (l m : List Ac) (w : World) (h1 : Arr w 12 v1 l.length (als l)) (h2 : Arr w 12 v2 m.length (als m)) : Gives Try.prog 14 #[v1, v2] w (.bool (decide (l = m))) := by
  apply gives_of
  by_cases hlen : l.length = m.length
  rotate_left
  · obtain ⟨_, a1, c1, rfl, _⟩ := h1
    obtain ⟨_, a2, c2, rfl, _⟩ := h2
    have hne : ((l.length : Int) != (m.length : Int)) = true := bne_iff_ne.2 (fun h => hlen (by exact_mod_cast h))
    rw [decide_eq_false (fun h => hlen (by rw [h]))]
    (go_enter Try.func14, Try.ntmps14; go_wp2_with (fail))
    go_ret
    exact ⟨rfl, by repeat (first | (with_reducible exact Later.refl _) | with_reducible apply Later.latr | with_reducible apply Later.alloc | with_reducible apply Later.drew | (with_reducible refine Later.set ?_ (by (simp; try omega)) _))⟩
  obtain ⟨_, a1, c1, rfl, _, hx1, hk1⟩ := h1
  obtain ⟨_, a2, c2, rfl, _, hx2, hk2⟩ := h2
  have heq : ((l.length : Int) != (m.length : Int)) = false := by simp [hlen]
  unfold maxLen at hx1
  have HK1 := hid hk1
  have HK2 := hid hk2
  clear hk1 hk2
  (go_enter Try.func14, Try.ntmps14; go_wp2_with (fail))
  go_loopw [5] (fun i wr => ∃ k : Nat, k ≤ l.length ∧ i = .int .i64 k ∧ Later w wr ∧ l.take k = m.take k) (fun i _ => l.length - (intOf i).toNat)
  case atStart => exact ⟨0, Nat.zero_le _, rfl, Later.refl _, rfl⟩
  case round =>
    obtain ⟨k, hk, rfl, hl, hs⟩ := hrel
    by_cases hlt : k < l.length
    · have hkm : k < m.length := by omega
      obtain ⟨b1, o1, rfl, hb1, hc1⟩ := HK1.out (by omega)
      obtain ⟨b2, o2, rfl, hb2, hc2⟩ := HK2.out (by omega)
      have g0 : wr.cell? ⟨b1, o1 + k * 12, none⟩ = some (.int .i64 l[k].kind) := (hl.cell hb1).trans (hc1 (k * 12 + 0) _ (by rw [als_at _ k 0 hlt (by decide)]; rfl))
      have g1 : wr.cell? ⟨b1, o1 + k * 12 + 1, none⟩ = some (.int .i64 l[k].rune) := (hl.cell hb1).trans (hc1 (k * 12 + 1) _ (by rw [als_at _ k 1 hlt (by decide)]; rfl))
      have g2 : wr.cell? ⟨b1, o1 + k * 12 + 2, none⟩ = some (.bool l[k].mark) := (hl.cell hb1).trans (hc1 (k * 12 + 2) _ (by rw [als_at _ k 2 hlt (by decide)]; rfl))
      have g3 : wr.cell? ⟨b1, o1 + k * 12 + 3, none⟩ = some (.int .i64 l[k].many) := (hl.cell hb1).trans (hc1 (k * 12 + 3) _ (by rw [als_at _ k 3 hlt (by decide)]; rfl))
      have g4 : wr.cell? ⟨b1, o1 + k * 12 + 4, none⟩ = some (.int .i64 l[k].p0) := (hl.cell hb1).trans (hc1 (k * 12 + 4) _ (by rw [als_at _ k 4 hlt (by decide)]; rfl))
      have g5 : wr.cell? ⟨b1, o1 + k * 12 + 5, none⟩ = some (.int .i64 l[k].p1) := (hl.cell hb1).trans (hc1 (k * 12 + 5) _ (by rw [als_at _ k 5 hlt (by decide)]; rfl))
      have g6 : wr.cell? ⟨b1, o1 + k * 12 + 6, none⟩ = some (.int .i64 l[k].p2) := (hl.cell hb1).trans (hc1 (k * 12 + 6) _ (by rw [als_at _ k 6 hlt (by decide)]; rfl))
      have g7 : wr.cell? ⟨b1, o1 + k * 12 + 7, none⟩ = some (.int .i64 l[k].p3) := (hl.cell hb1).trans (hc1 (k * 12 + 7) _ (by rw [als_at _ k 7 hlt (by decide)]; rfl))
      have g8 : wr.cell? ⟨b1, o1 + k * 12 + 8, none⟩ = some (.int .i64 l[k].p4) := (hl.cell hb1).trans (hc1 (k * 12 + 8) _ (by rw [als_at _ k 8 hlt (by decide)]; rfl))
      have g9 : wr.cell? ⟨b1, o1 + k * 12 + 9, none⟩ = some (.int .i64 l[k].p5) := (hl.cell hb1).trans (hc1 (k * 12 + 9) _ (by rw [als_at _ k 9 hlt (by decide)]; rfl))
      have g10 : wr.cell? ⟨b1, o1 + k * 12 + 10, none⟩ = some (.int .i64 l[k].p6) := (hl.cell hb1).trans (hc1 (k * 12 + 10) _ (by rw [als_at _ k 10 hlt (by decide)]; rfl))
      have g11 : wr.cell? ⟨b1, o1 + k * 12 + 11, none⟩ = some (.int .i64 l[k].p7) := (hl.cell hb1).trans (hc1 (k * 12 + 11) _ (by rw [als_at _ k 11 hlt (by decide)]; rfl))
      have f0 : wr.cell? ⟨b2, o2 + k * 12, none⟩ = some (.int .i64 m[k].kind) := (hl.cell hb2).trans (hc2 (k * 12 + 0) _ (by rw [als_at _ k 0 hkm (by decide)]; rfl))
      have f1 : wr.cell? ⟨b2, o2 + k * 12 + 1, none⟩ = some (.int .i64 m[k].rune) := (hl.cell hb2).trans (hc2 (k * 12 + 1) _ (by rw [als_at _ k 1 hkm (by decide)]; rfl))
      have f2 : wr.cell? ⟨b2, o2 + k * 12 + 2, none⟩ = some (.bool m[k].mark) := (hl.cell hb2).trans (hc2 (k * 12 + 2) _ (by rw [als_at _ k 2 hkm (by decide)]; rfl))
      have f3 : wr.cell? ⟨b2, o2 + k * 12 + 3, none⟩ = some (.int .i64 m[k].many) := (hl.cell hb2).trans (hc2 (k * 12 + 3) _ (by rw [als_at _ k 3 hkm (by decide)]; rfl))
      have f4 : wr.cell? ⟨b2, o2 + k * 12 + 4, none⟩ = some (.int .i64 m[k].p0) := (hl.cell hb2).trans (hc2 (k * 12 + 4) _ (by rw [als_at _ k 4 hkm (by decide)]; rfl))
      have f5 : wr.cell? ⟨b2, o2 + k * 12 + 5, none⟩ = some (.int .i64 m[k].p1) := (hl.cell hb2).trans (hc2 (k * 12 + 5) _ (by rw [als_at _ k 5 hkm (by decide)]; rfl))
      have f6 : wr.cell? ⟨b2, o2 + k * 12 + 6, none⟩ = some (.int .i64 m[k].p2) := (hl.cell hb2).trans (hc2 (k * 12 + 6) _ (by rw [als_at _ k 6 hkm (by decide)]; rfl))
      have f7 : wr.cell? ⟨b2, o2 + k * 12 + 7, none⟩ = some (.int .i64 m[k].p3) := (hl.cell hb2).trans (hc2 (k * 12 + 7) _ (by rw [als_at _ k 7 hkm (by decide)]; rfl))
      have f8 : wr.cell? ⟨b2, o2 + k * 12 + 8, none⟩ = some (.int .i64 m[k].p4) := (hl.cell hb2).trans (hc2 (k * 12 + 8) _ (by rw [als_at _ k 8 hkm (by decide)]; rfl))
      have f9 : wr.cell? ⟨b2, o2 + k * 12 + 9, none⟩ = some (.int .i64 m[k].p5) := (hl.cell hb2).trans (hc2 (k * 12 + 9) _ (by rw [als_at _ k 9 hkm (by decide)]; rfl))
      have f10 : wr.cell? ⟨b2, o2 + k * 12 + 10, none⟩ = some (.int .i64 m[k].p6) := (hl.cell hb2).trans (hc2 (k * 12 + 10) _ (by rw [als_at _ k 10 hkm (by decide)]; rfl))
      have f11 : wr.cell? ⟨b2, o2 + k * 12 + 11, none⟩ = some (.int .i64 m[k].p7) := (hl.cell hb2).trans (hc2 (k * 12 + 11) _ (by rw [als_at _ k 11 hkm (by decide)]; rfl))
      have hb1' : b1 < wr.heap.size := Nat.lt_of_lt_of_le hb1 hl.size
      have hb2' : b2 < wr.heap.size := Nat.lt_of_lt_of_le hb2 hl.size
      have hp := take_same hs hlt hkm
      have hq : l[k] ≠ m[k] → l ≠ m := fun h h' => h (by subst h'; rfl)
      clear hc1 hc2 hs
      generalize l[k] = x at *
      generalize m[k] = y at *
      have HL := hid hl
      clear hl
      by_cases he : x = y
      · have d1 : eqA ⟨x.kind, x.rune, x.mark, x.many, x.p0, x.p1, x.p2, x.p3, x.p4, x.p5, x.p6, x.p7⟩ ⟨y.kind, y.rune, y.mark, y.many, y.p0, y.p1, y.p2, y.p3, y.p4, y.p5, y.p6, y.p7⟩ = true := decide_eq_true he
        have HP := hid (hp he)
        clear hp hq he
        go_wp2_with (fail)
        (refine wp_region_calm (by kernel_rfl) (by kernel_rfl) ?_; (repeat (go_big_quiet_step ((fail)))); refine wpQuiet_nil ?_; rintro _ ⟨x, rfl⟩; go_wp2_with (fail))
        go_roundw
        case rel => exact ⟨k + 1, by omega, by go_num, HL.out.latr _, HP.out⟩
        case measure => simp [intOf]; omega
      · have d1 : eqA ⟨x.kind, x.rune, x.mark, x.many, x.p0, x.p1, x.p2, x.p3, x.p4, x.p5, x.p6, x.p7⟩ ⟨y.kind, y.rune, y.mark, y.many, y.p0, y.p1, y.p2, y.p3, y.p4, y.p5, y.p6, y.p7⟩ = false := decide_eq_false he
        have hd : decide (l = m) = false := decide_eq_false (hq he)
        clear hp hq he
        go_wp2_with (fail)
        (refine wp_region_calm (by kernel_rfl) (by kernel_rfl) ?_; (repeat (go_big_quiet_step ((fail)))); refine wpQuiet_nil ?_; rintro _ ⟨x, rfl⟩; go_wp2_with (fail))
        go_ret
        exact ⟨by rw [hd]; rfl, by repeat (first | (with_reducible exact Later.refl _) | (with_reducible exact HL.out) | with_reducible apply Later.latr | with_reducible apply Later.alloc | with_reducible apply Later.drew | (with_reducible refine Later.set ?_ (by (simp; try omega)) _))⟩
    · obtain rfl : k = l.length := by omega
      have hd : decide (l = m) = true := by
        rw [List.take_length, hlen, List.take_length] at hs
        exact decide_eq_true hs
      have HL := hid hl
      clear hl hs
      go_wp2_with (fail)
      go_ret
      exact ⟨by rw [hd]; rfl, by repeat (first | (with_reducible exact Later.refl _) | (with_reducible exact HL.out) | with_reducible apply Later.latr | with_reducible apply Later.alloc | with_reducible apply Later.drew | (with_reducible refine Later.set ?_ (by (simp; try omega)) _))⟩
end Go.Proofs.Ytjgaljnojhkimaa
