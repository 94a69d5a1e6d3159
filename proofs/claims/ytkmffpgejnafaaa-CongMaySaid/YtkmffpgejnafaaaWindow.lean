/- More walks of package cong's functions: those over a pointer to a window. No condition. -/
import Derived.Test.YtkmffpgejnafaaaWalks
namespace Go.Proofs.Ytkmffpgejnafaaa
open Go.RowKit
attribute [local go_sem] ite_max ite_min

theorem Blk.at {w : World} {g : Nat} {t : TypeId} {cs : Array Value} (h : Blk w g t cs) (i : Nat) {v : Value} (e : cs[i]? = some v) : w.cell? ⟨g, i, none⟩ = some v := (h.cell i).trans e
theorem Blk.at1 {w : World} {g : Nat} {t : TypeId} {a0 : Value} (h : Blk w g t #[a0]) : w.cell? ⟨g, 0, none⟩ = some a0 ∧ w.frozen? ⟨g, 0, none⟩ = false ∧ g < w.heap.size :=
  ⟨h.cell 0, h.frozen 0, h.lt⟩
theorem Blk.at2 {w : World} {g : Nat} {t : TypeId} {a0 a1 : Value} (h : Blk w g t #[a0, a1]) : w.cell? ⟨g, 0, none⟩ = some a0 ∧ w.cell? ⟨g, 1, none⟩ = some a1 ∧ w.frozen? ⟨g, 0, none⟩ = false ∧ w.frozen? ⟨g, 1, none⟩ = false ∧ g < w.heap.size :=
  ⟨h.cell 0, h.cell 1, h.frozen 0, h.frozen 1, h.lt⟩
theorem Blk.at3 {w : World} {g : Nat} {t : TypeId} {a0 a1 a2 : Value} (h : Blk w g t #[a0, a1, a2]) : w.cell? ⟨g, 0, none⟩ = some a0 ∧ w.cell? ⟨g, 1, none⟩ = some a1 ∧ w.cell? ⟨g, 2, none⟩ = some a2 ∧ w.frozen? ⟨g, 0, none⟩ = false ∧ w.frozen? ⟨g, 1, none⟩ = false ∧ w.frozen? ⟨g, 2, none⟩ = false ∧ g < w.heap.size :=
  ⟨h.cell 0, h.cell 1, h.cell 2, h.frozen 0, h.frozen 1, h.frozen 2, h.lt⟩
theorem Blk.at4 {w : World} {g : Nat} {t : TypeId} {a0 a1 a2 a3 : Value} (h : Blk w g t #[a0, a1, a2, a3]) : w.cell? ⟨g, 0, none⟩ = some a0 ∧ w.cell? ⟨g, 1, none⟩ = some a1 ∧ w.cell? ⟨g, 2, none⟩ = some a2 ∧ w.cell? ⟨g, 3, none⟩ = some a3 ∧ w.frozen? ⟨g, 0, none⟩ = false ∧ w.frozen? ⟨g, 1, none⟩ = false ∧ w.frozen? ⟨g, 2, none⟩ = false ∧ w.frozen? ⟨g, 3, none⟩ = false ∧ g < w.heap.size :=
  ⟨h.cell 0, h.cell 1, h.cell 2, h.cell 3, h.frozen 0, h.frozen 1, h.frozen 2, h.frozen 3, h.lt⟩
theorem Blk.at5 {w : World} {g : Nat} {t : TypeId} {a0 a1 a2 a3 a4 : Value} (h : Blk w g t #[a0, a1, a2, a3, a4]) : w.cell? ⟨g, 0, none⟩ = some a0 ∧ w.cell? ⟨g, 1, none⟩ = some a1 ∧ w.cell? ⟨g, 2, none⟩ = some a2 ∧ w.cell? ⟨g, 3, none⟩ = some a3 ∧ w.cell? ⟨g, 4, none⟩ = some a4 ∧ w.frozen? ⟨g, 0, none⟩ = false ∧ w.frozen? ⟨g, 1, none⟩ = false ∧ w.frozen? ⟨g, 2, none⟩ = false ∧ w.frozen? ⟨g, 3, none⟩ = false ∧ w.frozen? ⟨g, 4, none⟩ = false ∧ g < w.heap.size :=
  ⟨h.cell 0, h.cell 1, h.cell 2, h.cell 3, h.cell 4, h.frozen 0, h.frozen 1, h.frozen 2, h.frozen 3, h.frozen 4, h.lt⟩
theorem later_of {w w' : World} (h : ∃ x : Lat w, w' = latr w x) : Later w w' := by obtain ⟨x, rfl⟩ := h; exact latr_later _ _
theorem blk_new {W : World} {g : Nat} {t : TypeId} {cs : Array Value} (h : g = W.heap.size) : Blk (W.alloc (.cells cs t)) g t cs := h ▸ Blk.new W t cs

set_option maxHeartbeats 1000000 in
theorem of23 (r : Rn) (w : World) : Calls Try.prog 23 #[rv r] w fun e w' => ∃ (g : Nat) (x : Lat w), e = .returned (.pointer (some ⟨g, 0, none⟩)) ∧ w' = latr w x ∧ w.heap.size ≤ g ∧ Blk (latr w x) g 51 (rc (ofR r)) := by
  suffices H : Calls Try.prog 23 #[rv r] w fun e w' => ∃ g, e = .returned (.pointer (some ⟨g, 0, none⟩)) ∧ Later w w' ∧ w.heap.size ≤ g ∧ Blk w' g 51 (rc (ofR r)) from
    H.mono fun e w' ⟨g, he, hl, hs, hb⟩ => ⟨g, ⟨w', hl⟩, he, rfl, hs, hb⟩
  have h := check14 r
  unfold ofR
  generalize chk r = b at *
  have H := hid h
  clear h
  have S := hid start10
  obtain ⟨a, s, c, t⟩ := r
  cases b
  · rw [if_neg (by decide)]
    (go_enter Try.func23, Try.ntmps23; go_wp2_with (fail))
    (refine (H.out _).mono ?_; rintro e w1 ⟨rfl, x1, rfl⟩; go_wp2_with (fail))
    (refine (S.out _).mono ?_; rintro e w1 ⟨rfl, x1, rfl⟩; go_wp2_with (fail))
    go_ret
    exact ⟨_, rfl, by repeat (first | (with_reducible exact Later.refl _) | with_reducible apply Later.latr | with_reducible apply Later.alloc | with_reducible apply Later.drew | (with_reducible refine Later.set ?_ (by (simp; try omega)) _)), by omega, blk_new (by simp [size_latr])⟩
  · rw [if_pos rfl]
    (go_enter Try.func23, Try.ntmps23; go_wp2_with (fail))
    (refine (H.out _).mono ?_; rintro e w1 ⟨rfl, x1, rfl⟩; go_wp2_with (fail))
    go_ret
    exact ⟨_, rfl, by repeat (first | (with_reducible exact Later.refl _) | with_reducible apply Later.latr | with_reducible apply Later.alloc | with_reducible apply Later.drew | (with_reducible refine Later.set ?_ (by (simp; try omega)) _)), by omega, blk_new (by simp [size_latr])⟩

set_option maxHeartbeats 2000000 in
theorem counted24 (r : Rn) (s : Snt) (g : Nat) (w : World) (hB : Blk w g 51 (rc r)) : Gives Try.prog 24 #[.pointer (some ⟨g, 0, none⟩), sv s] w (.bool (cnt r s)) := by
  apply gives_of
  obtain ⟨k, t, z, e, p⟩ := s
  unfold cnt cnt0
  dsimp only
  have h1 := within27 z 1 65535
  have h2 := within27 t 0 1099511627776
  generalize inB z 1 65535 = b1 at *
  generalize inB t 0 1099511627776 = b2 at *
  have H1 := hid h1
  have H2 := hid h2
  clear h1 h2
  have c3 : w.cell? ⟨g, 3, none⟩ = some (.int .i64 r.r) := hB.cell 3
  have hg := hB.lt
  cases e
  · (go_enter Try.func24, Try.ntmps24; go_wp2_with (fail))
    (refine wp_region_calm (by kernel_rfl) (by kernel_rfl) ?_; (repeat (go_big_quiet_step ((fail)))); refine wpQuiet_nil ?_; rintro _ ⟨x, rfl⟩; go_wp2_with (fail))
    go_ret
    exact ⟨rfl, by repeat (first | (with_reducible exact Later.refl _) | with_reducible apply Later.latr | with_reducible apply Later.alloc | with_reducible apply Later.drew | (with_reducible refine Later.set ?_ (by (simp; try omega)) _))⟩
  cases b1
  · (go_enter Try.func24, Try.ntmps24; go_wp2_with (fail))
    (refine wp_region_calm (by kernel_rfl) (by kernel_rfl) ?_; (repeat (go_big_quiet_step (fail))); go_big_quiet_step ((go_at_call 27; exact calm_of (H1.out _))); (repeat (go_big_quiet_step (fail))); refine wpQuiet_nil ?_; rintro _ ⟨x, rfl⟩; go_wp2_with (fail))
    go_ret
    exact ⟨rfl, by repeat (first | (with_reducible exact Later.refl _) | with_reducible apply Later.latr | with_reducible apply Later.alloc | with_reducible apply Later.drew | (with_reducible refine Later.set ?_ (by (simp; try omega)) _))⟩
  cases b2
  · (go_enter Try.func24, Try.ntmps24; go_wp2_with (fail))
    (refine wp_region_calm (by kernel_rfl) (by kernel_rfl) ?_; (repeat (go_big_quiet_step (fail))); go_big_quiet_step ((go_at_call 27; exact calm_of (H1.out _))); (repeat (go_big_quiet_step (fail))); go_big_quiet_step ((go_at_call 27; exact calm_of (H2.out _))); (repeat (go_big_quiet_step (fail))); refine wpQuiet_nil ?_; rintro _ ⟨x, rfl⟩; go_wp2_with (fail))
    go_ret
    exact ⟨rfl, by repeat (first | (with_reducible exact Later.refl _) | with_reducible apply Later.latr | with_reducible apply Later.alloc | with_reducible apply Later.drew | (with_reducible refine Later.set ?_ (by (simp; try omega)) _))⟩
  (go_enter Try.func24, Try.ntmps24; go_wp2_with (fail))
  (refine wp_region_calm (by kernel_rfl) (by kernel_rfl) ?_; (repeat (go_big_quiet_step (fail))); go_big_quiet_step ((go_at_call 27; exact calm_of (H1.out _))); (repeat (go_big_quiet_step (fail))); go_big_quiet_step ((go_at_call 27; exact calm_of (H2.out _))); (repeat (go_big_quiet_step (fail))); refine wpQuiet_nil ?_; rintro _ ⟨x, rfl⟩; go_wp2_with (fail))
  go_ret
  exact ⟨rfl, by repeat (first | (with_reducible exact Later.refl _) | with_reducible apply Later.latr | with_reducible apply Later.alloc | with_reducible apply Later.drew | (with_reducible refine Later.set ?_ (by (simp; try omega)) _))⟩
end Go.Proofs.Ytkmffpgejnafaaa
