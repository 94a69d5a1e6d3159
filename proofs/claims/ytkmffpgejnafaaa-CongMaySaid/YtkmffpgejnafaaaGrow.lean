/- The walk of (*window).grow, the reference's count of a packet, and what may go. Of windows that may be. -/
import Derived.Test.YtkmffpgejnafaaaWindow
import Derived.Test.YtkmffpgejnafaaaSizes
namespace Go.Proofs.Ytkmffpgejnafaaa
open Go.RowKit
attribute [local go_sem] ite_max ite_min
attribute [local go_sem] h_lt1 h_lt2 h_lt3 h_lt4 h_lt5 h_lt6 h_eq1 h_qe1 h_eq2 h_qe2 h_eq3 h_qe3 h_eq4 h_qe4 h_eq5 h_qe5 h_eq6 h_qe6

/-- a world that was written to in one block alone -/
def Wr (w w' : World) (g : Nat) : Prop := w.grownBy w' (some g)
section
variable {w w' : World} {g : Nat}
theorem wr_refl (w : World) (g : Nat) : Wr w w g := ⟨rfl, rfl, rfl, Nat.le_refl _, fun _ _ _ => rfl⟩
theorem Wr.step {w'' : World} (h : Wr w w' g) (k : w'.grownBy w'' (some g)) : Wr w w'' g :=
  ⟨k.os.trans h.os, k.tape.trans h.tape, k.output.trans h.output, Nat.le_trans h.size k.size, fun i hi hne => (k.block i (Nat.lt_of_lt_of_le hi h.size) hne).trans (h.block i hi hne)⟩
theorem Wr.later {w'' : World} (h : Wr w w' g) (k : Later w' w'') : Wr w w'' g := h.step ⟨k.os, k.tape, k.output, k.size, fun i hi _ => k.block i hi⟩
theorem Wr.latr (h : Wr w w' g) (x : Lat w') : Wr w (latr w' x) g := h.later x.is
theorem Wr.drew (h : Wr w w' g) : Wr w w'.drew g := h.later (Later.refl _).drew
theorem Wr.alloc (h : Wr w w' g) (o : Obj) : Wr w (w'.alloc o) g := h.later ((Later.refl _).alloc o)
theorem Wr.set (h : Wr w w' g) (i : Nat) (u : Value) : Wr w (w'.setCell ⟨g, i, none⟩ u) g :=
  h.step ⟨rfl, rfl, rfl, by simp, fun k _ hne => Below.heap_setCell _ _ _ _ (by rintro rfl; exact hne rfl)⟩
theorem Wr.blk {g' : Nat} {t : TypeId} {cs : Array Value} (h : Wr w w' g) (hb : Blk w g' t cs) (hne : g' ≠ g) : Blk w' g' t cs := hb.grown h (by rintro he; injection he with he; exact hne he)
theorem Later.wr {a : World} (h : Later a w) (k : Wr w w' g) (hg : a.heap.size ≤ g) : Later a w' := h.grown k (by rintro _ he; injection he with he; omega)
end

theorem Blk.cast {w : World} {g : Nat} {t : TypeId} {cs cs' : Array Value} (h : Blk w g t cs) (e : cs = cs') : Blk w g t cs' := e ▸ h

set_option maxHeartbeats 4000000 in
theorem grow26 (r : Rn) (z : Int) (g : Nat) (w : World) (hB : Blk w g 51 (rc r)) (hr : Ok r) (z1 : 1 ≤ z) (z2 : z ≤ 65535) :
    Calls Try.prog 26 #[.pointer (some ⟨g, 0, none⟩), .int .i64 z] w fun e w' => e = .returned (.tuple #[]) ∧ Wr w w' g ∧ Blk w' g 51 (rc (grow r z)) := by
  obtain ⟨a, s, c, t⟩ := r
  obtain ⟨p1, p2, p3, p4, ⟨p5, p6⟩, p7⟩ := gr_bd hr z1 z2
  obtain ⟨⟨a1, a2⟩, ⟨s1, s2⟩, ⟨c1, c2⟩, ⟨t1, t2⟩⟩ := hr
  unfold grow cap
  unfold gr at *
  dsimp only at *
  (obtain ⟨hca0, hca1, hca2, hca3, hfa0, hfa1, hfa2, hfa3, hga⟩ := Blk.at4 (hB))
  by_cases h1 : a < s
  · rw [if_pos h1] at *
    dsimp only at *
    have d1 : decide (a < s) = true := decide_eq_true h1
    have e1 : IntKind.i64.wrap (a + z) = a + z := IntWalk.i64_in _ (by omega)
    by_cases h2 : 96000 < a + z
    · rw [if_pos h2]
      (go_enter Try.func26, Try.ntmps26; go_wp2_with (fail))
      (refine wp_region_calm (by kernel_rfl) (by kernel_rfl) ?_; (repeat (go_big_quiet_step ((fail)))); refine wpQuiet_nil ?_; rintro _ ⟨x, rfl⟩; go_wp2_with (fail))
      go_end0
      exact ⟨rfl, by repeat (first | (with_reducible exact wr_refl _ _) | with_reducible apply Wr.latr | with_reducible apply Wr.set | with_reducible apply Wr.alloc | with_reducible apply Wr.drew), by (apply Blk.cast; (repeat (first | (with_reducible exact hB) | with_reducible apply Blk.latr | with_reducible apply Blk.drew | with_reducible apply Blk.set_ | with_reducible apply Blk.alloc)); rfl)⟩
    · rw [if_neg h2]
      (go_enter Try.func26, Try.ntmps26; go_wp2_with (fail))
      (refine wp_region_calm (by kernel_rfl) (by kernel_rfl) ?_; (repeat (go_big_quiet_step ((fail)))); refine wpQuiet_nil ?_; rintro _ ⟨x, rfl⟩; go_wp2_with (fail))
      go_end0
      exact ⟨rfl, by repeat (first | (with_reducible exact wr_refl _ _) | with_reducible apply Wr.latr | with_reducible apply Wr.set | with_reducible apply Wr.alloc | with_reducible apply Wr.drew), by (apply Blk.cast; (repeat (first | (with_reducible exact hB) | with_reducible apply Blk.latr | with_reducible apply Blk.drew | with_reducible apply Blk.set_ | with_reducible apply Blk.alloc)); rfl)⟩
  · rw [if_neg h1] at *
    dsimp only at *
    have hne : a ≠ 0 := by omega
    have d1 : decide (a < s) = false := decide_eq_false h1
    have q0 : 0 ≤ (c + 256 * z) / a := Int.ediv_nonneg (by omega) (by omega)
    have qm : (c + 256 * z) % a = c + 256 * z - (c + 256 * z) / a * a := by rw [Int.emod_def, Int.mul_comm a]
    have e1 : (c + 256 * z).tdiv a = (c + 256 * z) / a := Int.tdiv_eq_ediv_of_nonneg (by omega)
    rw [qm] at p5 p6 ⊢
    clear qm
    generalize (c + 256 * z) / a = q at *
    have qb : 512 * q ≤ a * q := Int.mul_le_mul_of_nonneg_right a1 q0
    rw [Int.mul_comm a q] at qb
    have e0 : IntKind.i64.wrap (256 * z) = 256 * z := IntWalk.i64_in _ (by omega)
    have e0' : IntKind.i64.wrap (c + 256 * z) = c + 256 * z := IntWalk.i64_in _ (by omega)
    have e2 : IntKind.i64.wrap q = q := IntWalk.i64_in _ (by omega)
    have e3 : IntKind.i64.wrap (q * a) = q * a := IntWalk.i64_in _ (by omega)
    have e4 : IntKind.i64.wrap (c + 256 * z - q * a) = c + 256 * z - q * a := IntWalk.i64_in _ (by omega)
    have e5 : IntKind.i64.wrap (a + q) = a + q := IntWalk.i64_in _ (by omega)
    clear qb
    by_cases h2 : 96000 < a + q
    · rw [if_pos h2]
      (go_enter Try.func26, Try.ntmps26; go_wp2_with (fail))
      (refine wp_region_calm (by kernel_rfl) (by kernel_rfl) ?_; (repeat (go_big_quiet_step ((fail)))); refine wpQuiet_nil ?_; rintro W1 hW1; replace hW1 := later_of hW1)
      have hB1 := hB.later hW1
      have hR1 := (wr_refl w g).later hW1
      (obtain ⟨hcb0, hcb1, hcb2, hcb3, hfb0, hfb1, hfb2, hfb3, hgb⟩ := Blk.at4 (hB1))
      go_wp2_with (fail)
      (refine wp_region_calm (by kernel_rfl) (by kernel_rfl) ?_; (repeat (go_big_quiet_step ((fail)))); refine wpQuiet_nil ?_; rintro W2 hW2; replace hW2 := later_of hW2)
      have hB2 : Blk W2 g 51 #[_, _, _, _] := (hB1.set_ 2 _).later hW2
      have hR2 := (hR1.set 2 _).later hW2
      (obtain ⟨hcc0, hcc1, hcc2, hcc3, hfc0, hfc1, hfc2, hfc3, hgc⟩ := Blk.at4 (hB2))
      go_wp2_with (fail)
      (refine wp_region_calm_tail 16 (by kernel_rfl) (by kernel_rfl) ?_; simp only [List.take_succ_cons, List.take_zero, List.drop_succ_cons, List.drop_zero]; (repeat (go_big_quiet_step ((fail)))); refine wpQuiet_nil ?_; rintro W3 hW3; replace hW3 := later_of hW3)
      have hB3 := hB2.later hW3
      have hR3 := hR2.later hW3
      (obtain ⟨hcd0, hcd1, hcd2, hcd3, hfd0, hfd1, hfd2, hfd3, hgd⟩ := Blk.at4 (hB3))
      go_wp2_with (fail)
      go_end0
      exact ⟨rfl, by repeat (first | (with_reducible exact hR3) | with_reducible apply Wr.set), by (apply Blk.cast; (repeat (first | (with_reducible exact hB3) | with_reducible apply Blk.latr | with_reducible apply Blk.drew | with_reducible apply Blk.set_ | with_reducible apply Blk.alloc)); rfl)⟩
    · rw [if_neg h2]
      (go_enter Try.func26, Try.ntmps26; go_wp2_with (fail))
      (refine wp_region_calm (by kernel_rfl) (by kernel_rfl) ?_; (repeat (go_big_quiet_step ((fail)))); refine wpQuiet_nil ?_; rintro W1 hW1; replace hW1 := later_of hW1)
      have hB1 := hB.later hW1
      have hR1 := (wr_refl w g).later hW1
      (obtain ⟨hcb0, hcb1, hcb2, hcb3, hfb0, hfb1, hfb2, hfb3, hgb⟩ := Blk.at4 (hB1))
      go_wp2_with (fail)
      (refine wp_region_calm (by kernel_rfl) (by kernel_rfl) ?_; (repeat (go_big_quiet_step ((fail)))); refine wpQuiet_nil ?_; rintro W2 hW2; replace hW2 := later_of hW2)
      have hB2 : Blk W2 g 51 #[_, _, _, _] := (hB1.set_ 2 _).later hW2
      have hR2 := (hR1.set 2 _).later hW2
      (obtain ⟨hcc0, hcc1, hcc2, hcc3, hfc0, hfc1, hfc2, hfc3, hgc⟩ := Blk.at4 (hB2))
      go_wp2_with (fail)
      (refine wp_region_calm_tail 16 (by kernel_rfl) (by kernel_rfl) ?_; simp only [List.take_succ_cons, List.take_zero, List.drop_succ_cons, List.drop_zero]; (repeat (go_big_quiet_step ((fail)))); refine wpQuiet_nil ?_; rintro W3 hW3; replace hW3 := later_of hW3)
      have hB3 := hB2.later hW3
      have hR3 := hR2.later hW3
      (obtain ⟨hcd0, hcd1, hcd2, hcd3, hfd0, hfd1, hfd2, hfd3, hgd⟩ := Blk.at4 (hB3))
      go_wp2_with (fail)
      go_end0
      exact ⟨rfl, by repeat (first | (with_reducible exact hR3) | with_reducible apply Wr.set), by (apply Blk.cast; (repeat (first | (with_reducible exact hB3) | with_reducible apply Blk.latr | with_reducible apply Blk.drew | with_reducible apply Blk.set_ | with_reducible apply Blk.alloc)); rfl)⟩
end Go.Proofs.Ytkmffpgejnafaaa
