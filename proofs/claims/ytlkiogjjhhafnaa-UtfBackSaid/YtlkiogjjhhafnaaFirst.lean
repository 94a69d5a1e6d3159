/- The walks of what a byte is, of an empty state: the code's and the reference's. No condition. -/
import Derived.Test.YtlkiogjjhhafnaaWalks
import Derived.Test.YtlkiogjjhhafnaaArr
namespace Go.Proofs.Ytlkiogjjhhafnaa
open Go.RowKit
attribute [local go_sem] ite_max ite_min
attribute [local go_sem] h_lt1 h_lt2 h_lt3 h_lt4 h_lt5 h_lt6 h_eq1 h_qe1 h_eq2 h_qe2 h_eq3 h_qe3 h_eq4 h_qe4 h_eq5 h_qe5 h_eq6 h_qe6

def Made (w : World) (r : Ut × List Int) (e : Ending) (w' : World) : Prop :=
  ∃ v, e = .returned (.tuple #[uv r.1, v]) ∧ Later w w' ∧ w'.ownsRow w.heap.size 3 1 v r.2.length (r.2.map iv)
theorem own_lit {W : World} {t : TypeId} {xs : List Value} {n size base g : Nat} (hg : g = W.heap.size) (hb : base ≤ W.heap.size) (hn : xs.length = n * size) (hm : n ≤ maxLen) :
    (W.alloc (.cells xs.toArray t)).ownsRow base t size (.slice (some ⟨g, 0, none⟩) n n) n xs := by
  subst hg
  exact ⟨hn, .inr ⟨_, n, xs.toArray, rfl, hb, heap_alloc_new W _, Nat.le_refl _, hm, by simpa using hn, by rw [← hn]; simp⟩⟩
theorem own_mono {w : World} {base base' : Nat} {e : TypeId} {size : Nat} {v : Value} {n : Nat} {xs : List Value} (h : w.ownsRow base e size v n xs) (hb : base' ≤ base) : w.ownsRow base' e size v n xs := by
  obtain ⟨h1, h2 | ⟨g, cap, cur, h3, h4, h5⟩⟩ := h
  · exact ⟨h1, .inl h2⟩
  · exact ⟨h1, .inr ⟨g, cap, cur, h3, Nat.le_trans hb h4, h5⟩⟩
theorem own_ne_low {w : World} {base : Nat} {e : TypeId} {size : Nat} {v : Value} {n : Nat} {xs : List Value} (h : w.ownsRow base e size v n xs) {b : Nat} (hb : b < base) : some b ≠ v.ownBlock := fun e1 => by
  have := (h.lt b e1.symm).1
  omega
theorem own_shape {w : World} {base : Nat} {e : TypeId} {size : Nat} {v : Value} {n : Nat} {xs : List Value} (h : w.ownsRow base e size v n xs) : Shape v := by
  obtain ⟨_, ⟨h2, _⟩ | ⟨g, cap, cur, h3, _⟩⟩ := h
  · exact .inl h2
  · exact .inr ⟨_, _, _, h3⟩

set_option maxHeartbeats 8000000 in
theorem first15 (b : Int) (h0 : 0 ≤ b) (h1 : b < 256) (w : World) : Calls Try.prog 15 #[.int .u8 b] w (Made w (fstU b)) := by
  unfold fstU
  split
  · have s1 : decide (b < 128) = true := decide_eq_true (by omega)
    (go_enter Try.func15, Try.ntmps15; go_wp2_with (fail))
    have HB := hid (((Blk.new w 23 #[.int .i64 0, .int .i64 0, .int .i64 0])).alloc (.cells #[Value.int IntKind.i64 b] 3))
    (obtain ⟨hcr0, hcr1, hcr2, hfr0, hfr1, hfr2, hgr⟩ := Blk.at3 (HB.out))
    ((try simp only [Exit.inBlock, Exit.then]); refine bodyPost_ret (by simp [results, Try.results15, go_sem, hcr0, hcr1, hcr2]; try rfl) rfl ?_)
    exact ⟨_, rfl, by repeat (first | (with_reducible exact Later.refl _) | with_reducible apply Later.latr | with_reducible apply Later.alloc | with_reducible apply Later.drew | (with_reducible refine Later.set ?_ (by (simp; try omega)) _)), own_lit (xs := [.int .i64 b]) (n := 1) (by simp) (by simp) rfl (by decide)⟩
  split
  · have s1 : decide (b < 128) = false := decide_eq_false (by omega)
    have s2 : decide (b < 194) = true := decide_eq_true (by omega)
    (go_enter Try.func15, Try.ntmps15; go_wp2_with (fail))
    have HB := hid (((Blk.new w 23 #[.int .i64 0, .int .i64 0, .int .i64 0])).alloc (.cells #[Value.int IntKind.i64 65533] 3))
    (obtain ⟨hcr0, hcr1, hcr2, hfr0, hfr1, hfr2, hgr⟩ := Blk.at3 (HB.out))
    ((try simp only [Exit.inBlock, Exit.then]); refine bodyPost_ret (by simp [results, Try.results15, go_sem, hcr0, hcr1, hcr2]; try rfl) rfl ?_)
    exact ⟨_, rfl, by repeat (first | (with_reducible exact Later.refl _) | with_reducible apply Later.latr | with_reducible apply Later.alloc | with_reducible apply Later.drew | (with_reducible refine Later.set ?_ (by (simp; try omega)) _)), own_lit (xs := [.int .i64 65533]) (n := 1) (by simp) (by simp) rfl (by decide)⟩
  split
  · have s1 : decide (b < 128) = false := decide_eq_false (by omega)
    have s2 : decide (b < 194) = false := decide_eq_false (by omega)
    have s3 : decide (244 < b) = true := decide_eq_true (by omega)
    (go_enter Try.func15, Try.ntmps15; go_wp2_with (fail))
    have HB := hid (((Blk.new w 23 #[.int .i64 0, .int .i64 0, .int .i64 0])).alloc (.cells #[Value.int IntKind.i64 65533] 3))
    (obtain ⟨hcr0, hcr1, hcr2, hfr0, hfr1, hfr2, hgr⟩ := Blk.at3 (HB.out))
    ((try simp only [Exit.inBlock, Exit.then]); refine bodyPost_ret (by simp [results, Try.results15, go_sem, hcr0, hcr1, hcr2]; try rfl) rfl ?_)
    exact ⟨_, rfl, by repeat (first | (with_reducible exact Later.refl _) | with_reducible apply Later.latr | with_reducible apply Later.alloc | with_reducible apply Later.drew | (with_reducible refine Later.set ?_ (by (simp; try omega)) _)), own_lit (xs := [.int .i64 65533]) (n := 1) (by simp) (by simp) rfl (by decide)⟩
  split
  · have s1 : decide (b < 128) = false := decide_eq_false (by omega)
    have s2 : decide (b < 194) = false := decide_eq_false (by omega)
    have s3 : decide (244 < b) = false := decide_eq_false (by omega)
    have s4 : decide (240 ≤ b) = true := decide_eq_true (by omega)
    (go_enter Try.func15, Try.ntmps15; go_wp2_with (fail))
    have HB := hid (Blk.new w 23 #[.int .i64 3, .int .i64 (b % 8), .int .i64 65536])
    (obtain ⟨hcr0, hcr1, hcr2, hfr0, hfr1, hfr2, hgr⟩ := Blk.at3 (HB.out))
    ((try simp only [Exit.inBlock, Exit.then]); refine bodyPost_ret (by simp [results, Try.results15, go_sem, hcr0, hcr1, hcr2]; try rfl) rfl ?_)
    exact ⟨_, rfl, by repeat (first | (with_reducible exact Later.refl _) | with_reducible apply Later.latr | with_reducible apply Later.alloc | with_reducible apply Later.drew | (with_reducible refine Later.set ?_ (by (simp; try omega)) _)), World.ownsRow_nil _ _ _ _⟩
  split
  · have s1 : decide (b < 128) = false := decide_eq_false (by omega)
    have s2 : decide (b < 194) = false := decide_eq_false (by omega)
    have s3 : decide (244 < b) = false := decide_eq_false (by omega)
    have s4 : decide (240 ≤ b) = false := decide_eq_false (by omega)
    have s5 : decide (224 ≤ b) = true := decide_eq_true (by omega)
    (go_enter Try.func15, Try.ntmps15; go_wp2_with (fail))
    have HB := hid (Blk.new w 23 #[.int .i64 2, .int .i64 (b % 16), .int .i64 2048])
    (obtain ⟨hcr0, hcr1, hcr2, hfr0, hfr1, hfr2, hgr⟩ := Blk.at3 (HB.out))
    ((try simp only [Exit.inBlock, Exit.then]); refine bodyPost_ret (by simp [results, Try.results15, go_sem, hcr0, hcr1, hcr2]; try rfl) rfl ?_)
    exact ⟨_, rfl, by repeat (first | (with_reducible exact Later.refl _) | with_reducible apply Later.latr | with_reducible apply Later.alloc | with_reducible apply Later.drew | (with_reducible refine Later.set ?_ (by (simp; try omega)) _)), World.ownsRow_nil _ _ _ _⟩
  · have s1 : decide (b < 128) = false := decide_eq_false (by omega)
    have s2 : decide (b < 194) = false := decide_eq_false (by omega)
    have s3 : decide (244 < b) = false := decide_eq_false (by omega)
    have s4 : decide (240 ≤ b) = false := decide_eq_false (by omega)
    have s5 : decide (224 ≤ b) = false := decide_eq_false (by omega)
    (go_enter Try.func15, Try.ntmps15; go_wp2_with (fail))
    have HB := hid (Blk.new w 23 #[.int .i64 1, .int .i64 (b % 32), .int .i64 128])
    (obtain ⟨hcr0, hcr1, hcr2, hfr0, hfr1, hfr2, hgr⟩ := Blk.at3 (HB.out))
    ((try simp only [Exit.inBlock, Exit.then]); refine bodyPost_ret (by simp [results, Try.results15, go_sem, hcr0, hcr1, hcr2]; try rfl) rfl ?_)
    exact ⟨_, rfl, by repeat (first | (with_reducible exact Later.refl _) | with_reducible apply Later.latr | with_reducible apply Later.alloc | with_reducible apply Later.drew | (with_reducible refine Later.set ?_ (by (simp; try omega)) _)), World.ownsRow_nil _ _ _ _⟩
set_option maxHeartbeats 8000000 in
theorem first18 (b : Int) (h0 : 0 ≤ b) (h1 : b < 256) (w : World) : Calls Try.prog 18 #[.int .u8 b] w (Made w (fstU b)) := by
  unfold fstU
  split
  · have s1 : decide (b < 128) = true := decide_eq_true (by omega)
    (go_enter Try.func18, Try.ntmps18; go_wp2_with (fail))
    have HB := hid (((Blk.new w 23 #[.int .i64 0, .int .i64 0, .int .i64 0])).alloc (.cells #[Value.int IntKind.i64 b] 3))
    (obtain ⟨hcr0, hcr1, hcr2, hfr0, hfr1, hfr2, hgr⟩ := Blk.at3 (HB.out))
    ((try simp only [Exit.inBlock, Exit.then]); refine bodyPost_ret (by simp [results, Try.results18, go_sem, hcr0, hcr1, hcr2]; try rfl) rfl ?_)
    exact ⟨_, rfl, by repeat (first | (with_reducible exact Later.refl _) | with_reducible apply Later.latr | with_reducible apply Later.alloc | with_reducible apply Later.drew | (with_reducible refine Later.set ?_ (by (simp; try omega)) _)), own_lit (xs := [.int .i64 b]) (n := 1) (by simp) (by simp) rfl (by decide)⟩
  split
  · have s1 : decide (b < 128) = false := decide_eq_false (by omega)
    have s2 : decide (194 ≤ b) = false := decide_eq_false (by omega)
    have s3 : decide (224 ≤ b) = false := decide_eq_false (by omega)
    have s4 : decide (240 ≤ b) = false := decide_eq_false (by omega)
    (go_enter Try.func18, Try.ntmps18; go_wp2_with (fail))
    have HB := hid (((Blk.new w 23 #[.int .i64 0, .int .i64 0, .int .i64 0])).alloc (.cells #[Value.int IntKind.i64 65533] 3))
    (obtain ⟨hcr0, hcr1, hcr2, hfr0, hfr1, hfr2, hgr⟩ := Blk.at3 (HB.out))
    ((try simp only [Exit.inBlock, Exit.then]); refine bodyPost_ret (by simp [results, Try.results18, go_sem, hcr0, hcr1, hcr2]; try rfl) rfl ?_)
    exact ⟨_, rfl, by repeat (first | (with_reducible exact Later.refl _) | with_reducible apply Later.latr | with_reducible apply Later.alloc | with_reducible apply Later.drew | (with_reducible refine Later.set ?_ (by (simp; try omega)) _)), own_lit (xs := [.int .i64 65533]) (n := 1) (by simp) (by simp) rfl (by decide)⟩
  split
  · have s1 : decide (b < 128) = false := decide_eq_false (by omega)
    have s2 : decide (194 ≤ b) = true := decide_eq_true (by omega)
    have s3 : decide (b ≤ 223) = false := decide_eq_false (by omega)
    have s4 : decide (224 ≤ b) = true := decide_eq_true (by omega)
    have s5 : decide (b ≤ 239) = false := decide_eq_false (by omega)
    have s6 : decide (240 ≤ b) = true := decide_eq_true (by omega)
    have s7 : decide (b ≤ 244) = false := decide_eq_false (by omega)
    (go_enter Try.func18, Try.ntmps18; go_wp2_with (fail))
    have HB := hid (((Blk.new w 23 #[.int .i64 0, .int .i64 0, .int .i64 0])).alloc (.cells #[Value.int IntKind.i64 65533] 3))
    (obtain ⟨hcr0, hcr1, hcr2, hfr0, hfr1, hfr2, hgr⟩ := Blk.at3 (HB.out))
    ((try simp only [Exit.inBlock, Exit.then]); refine bodyPost_ret (by simp [results, Try.results18, go_sem, hcr0, hcr1, hcr2]; try rfl) rfl ?_)
    exact ⟨_, rfl, by repeat (first | (with_reducible exact Later.refl _) | with_reducible apply Later.latr | with_reducible apply Later.alloc | with_reducible apply Later.drew | (with_reducible refine Later.set ?_ (by (simp; try omega)) _)), own_lit (xs := [.int .i64 65533]) (n := 1) (by simp) (by simp) rfl (by decide)⟩
  split
  · have s1 : decide (b < 128) = false := decide_eq_false (by omega)
    have s2 : decide (194 ≤ b) = true := decide_eq_true (by omega)
    have s3 : decide (b ≤ 223) = false := decide_eq_false (by omega)
    have s4 : decide (224 ≤ b) = true := decide_eq_true (by omega)
    have s5 : decide (b ≤ 239) = false := decide_eq_false (by omega)
    have s6 : decide (240 ≤ b) = true := decide_eq_true (by omega)
    have s7 : decide (b ≤ 244) = true := decide_eq_true (by omega)
    (go_enter Try.func18, Try.ntmps18; go_wp2_with (fail))
    have HB := hid (Blk.new w 23 #[.int .i64 3, .int .i64 (b % 8), .int .i64 65536])
    (obtain ⟨hcr0, hcr1, hcr2, hfr0, hfr1, hfr2, hgr⟩ := Blk.at3 (HB.out))
    ((try simp only [Exit.inBlock, Exit.then]); refine bodyPost_ret (by simp [results, Try.results18, go_sem, hcr0, hcr1, hcr2]; try rfl) rfl ?_)
    exact ⟨_, rfl, by repeat (first | (with_reducible exact Later.refl _) | with_reducible apply Later.latr | with_reducible apply Later.alloc | with_reducible apply Later.drew | (with_reducible refine Later.set ?_ (by (simp; try omega)) _)), World.ownsRow_nil _ _ _ _⟩
  split
  · have s1 : decide (b < 128) = false := decide_eq_false (by omega)
    have s2 : decide (194 ≤ b) = true := decide_eq_true (by omega)
    have s3 : decide (b ≤ 223) = false := decide_eq_false (by omega)
    have s4 : decide (224 ≤ b) = true := decide_eq_true (by omega)
    have s5 : decide (b ≤ 239) = true := decide_eq_true (by omega)
    (go_enter Try.func18, Try.ntmps18; go_wp2_with (fail))
    have HB := hid (Blk.new w 23 #[.int .i64 2, .int .i64 (b % 16), .int .i64 2048])
    (obtain ⟨hcr0, hcr1, hcr2, hfr0, hfr1, hfr2, hgr⟩ := Blk.at3 (HB.out))
    ((try simp only [Exit.inBlock, Exit.then]); refine bodyPost_ret (by simp [results, Try.results18, go_sem, hcr0, hcr1, hcr2]; try rfl) rfl ?_)
    exact ⟨_, rfl, by repeat (first | (with_reducible exact Later.refl _) | with_reducible apply Later.latr | with_reducible apply Later.alloc | with_reducible apply Later.drew | (with_reducible refine Later.set ?_ (by (simp; try omega)) _)), World.ownsRow_nil _ _ _ _⟩
  · have s1 : decide (b < 128) = false := decide_eq_false (by omega)
    have s2 : decide (194 ≤ b) = true := decide_eq_true (by omega)
    have s3 : decide (b ≤ 223) = true := decide_eq_true (by omega)
    (go_enter Try.func18, Try.ntmps18; go_wp2_with (fail))
    have HB := hid (Blk.new w 23 #[.int .i64 1, .int .i64 (b % 32), .int .i64 128])
    (obtain ⟨hcr0, hcr1, hcr2, hfr0, hfr1, hfr2, hgr⟩ := Blk.at3 (HB.out))
    ((try simp only [Exit.inBlock, Exit.then]); refine bodyPost_ret (by simp [results, Try.results18, go_sem, hcr0, hcr1, hcr2]; try rfl) rfl ?_)
    exact ⟨_, rfl, by repeat (first | (with_reducible exact Later.refl _) | with_reducible apply Later.latr | with_reducible apply Later.alloc | with_reducible apply Later.drew | (with_reducible refine Later.set ?_ (by (simp; try omega)) _)), World.ownsRow_nil _ _ _ _⟩
end Go.Proofs.Ytlkiogjjhhafnaa
