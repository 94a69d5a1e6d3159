/- The walk of EscapeTells: it answers true. Of arguments of their types. -/
import Derived.Test.YtjgaljnojhkimaaAwake
import Derived.Test.YtjgaljnojhkimaaRstep
import Derived.Test.YtjgaljnojhkimaaParam
import Derived.Deep.RegionHeldLaw
import Derived.Deep.DrawnRows
namespace Go.Proofs.Ytjgaljnojhkimaa
open Go.RowKit
attribute [local go_sem] ite_max ite_min
attribute [local go_sem ↓] Go.wp_at_zero Go.wp_at_succ
attribute [local go_sem] h_lt1 h_lt2 h_lt3 h_lt4 h_lt5 h_lt6 h_eq1 h_qe1 h_eq2 h_qe2 h_eq3 h_qe3 h_eq4 h_qe4 h_eq5 h_qe5 h_eq6 h_qe6

set_option maxRecDepth 100000 in
set_option maxHeartbeats 16000000 in
theorem tells4 (p : Pa) (n i none : Int) (w : World) : Gives Try.prog 4 #[pv p, .int .i64 n, .int .i64 i, .int .i64 none] w (.bool true) := by
  apply gives_of
  have h9' := step9 p n
  have h10' := step10 p n
  generalize stepP p n = r at *
  (go_enter Try.func4, Try.ntmps4; go_wp2_with (fail))
  refine (awake8 _).later.mono ?_
  rintro e W1 ⟨rfl, hl1⟩
  have hA := (show Blk _ w.heap.size 27 (pc p) from (by repeat (first | (with_reducible assumption) | (with_reducible exact blk_new (by first | rfl | (simp; done))) | with_reducible apply Blk.alloc | with_reducible apply Blk.drew | with_reducible apply Blk.latr | (with_reducible refine Blk.far ?_ (by (simp; try omega)) _)))).later hl1
  have hL1 := Later.trans (a := w) (by repeat (first | (with_reducible exact Later.refl _) | with_reducible apply Later.latr | with_reducible apply Later.alloc | with_reducible apply Later.drew | (with_reducible refine Later.set ?_ (by (simp; try omega)) _))) hl1
  have htA := hA.there (o := 0) (n := 13) (by simp)
  have hcA := hA.cells 0 13 (pl p) rfl rfl
  (simp only [])
  (repeat go_step)
  refine (h9' _).later.mono ?_
  rintro e W2 ⟨rfl, hl2⟩
  have hA2 := ((hA.later hl2).alloc (.cells (pc r.1) 27)).alloc (.cells (ac r.2.1) 25)
  have hL2 := Later.trans (a := w) hL1 hl2
  have htA2 := hA2.there (o := 0) (n := 13) (by simp)
  have hcA2 := hA2.cells 0 13 (pl p) rfl rfl
  have hlt2 := (hA.later hl2).lt
  clear htA hcA hl2
  (simp only [])
  (repeat go_step)
  refine (h10' _).later.mono ?_
  rintro e W3 ⟨rfl, hl3⟩
  (simp only [])
  (repeat go_step)
  obtain ⟨U, hU⟩ : ∃ U, U = (W3.alloc (.cells (pc r.1) 27)).alloc (.cells (ac r.2.1) 25) := ⟨_, rfl⟩
  have B0 : Blk U w.heap.size 27 (pc p) := by rw [hU]; exact ((hA2.later hl3).alloc _).alloc _
  have B10 : Blk U W2.heap.size 27 (pc r.1) := by rw [hU]; exact ((((Blk.new W2 27 (pc r.1)).alloc (.cells (ac r.2.1) 25)).later hl3).alloc _).alloc _
  have B11 : Blk U (W2.heap.size + 1) 25 (ac r.2.1) := by rw [hU]; exact (((blk_new (W := W2.alloc (.cells (pc r.1) 27)) (t := 25) (cs := ac r.2.1) (by simp)).later hl3).alloc _).alloc _
  have B13 : Blk U W3.heap.size 27 (pc r.1) := by rw [hU]; exact (Blk.new W3 27 (pc r.1)).alloc _
  have B14 : Blk U (W3.heap.size + 1) 25 (ac r.2.1) := by rw [hU]; exact blk_new (by simp)
  have HL : Hid (Later w U) := hid (by rw [hU]; exact ((((hL2.alloc _).alloc _).trans hl3).alloc _).alloc _)
  rw [← hU]
  clear hU hl3 htA2 hcA2 hA2 hA hlt2 hL2 hL1 hl1
  generalize W2.heap.size + 1 = p11 at *
  generalize W2.heap.size = p10 at *
  generalize W3.heap.size + 1 = p14 at *
  generalize W3.heap.size = p13 at *
  (obtain ⟨hca0, hca1, hca2, hca3, hca4, hca5, hca6, hca7, hca8, hca9, hca10, hca11, hca12, hfa0, hfa1, hfa2, hfa3, hfa4, hfa5, hfa6, hfa7, hfa8, hfa9, hfa10, hfa11, hfa12, hga⟩ := Blk.at13 (B10))
  (obtain ⟨hcb0, hcb1, hcb2, hcb3, hcb4, hcb5, hcb6, hcb7, hcb8, hcb9, hcb10, hcb11, hcb12, hfb0, hfb1, hfb2, hfb3, hfb4, hfb5, hfb6, hfb7, hfb8, hfb9, hfb10, hfb11, hfb12, hgb⟩ := Blk.at13 (B13))
  (obtain ⟨hcc0, hcc1, hcc2, hcc3, hcc4, hcc5, hcc6, hcc7, hcc8, hcc9, hcc10, hcc11, hfc0, hfc1, hfc2, hfc3, hfc4, hfc5, hfc6, hfc7, hfc8, hfc9, hfc10, hfc11, hgc⟩ := Blk.at12 (B11))
  (obtain ⟨hcd0, hcd1, hcd2, hcd3, hcd4, hcd5, hcd6, hcd7, hcd8, hcd9, hcd10, hcd11, hfd0, hfd1, hfd2, hfd3, hfd4, hfd5, hfd6, hfd7, hfd8, hfd9, hfd10, hfd11, hgd⟩ := Blk.at12 (B14))
  (obtain ⟨hce0, hce1, hce2, hce3, hce4, hce5, hce6, hce7, hce8, hce9, hce10, hce11, hce12, hfe0, hfe1, hfe2, hfe3, hfe4, hfe5, hfe6, hfe7, hfe8, hfe9, hfe10, hfe11, hfe12, hge⟩ := Blk.at13 (B0))
  clear B10 B13 B11 B14 B0
  (refine wp_region_calm (by kernel_rfl) (by kernel_rfl) ?_; (repeat (go_big_quiet_step ((first | (go_at_call 11; exact calm_of (param11 p.a i none _)) | (go_at_call 12; exact calm_of (param12 p.a i none _)))))); refine wpQuiet_nil ?_; rintro _ ⟨x, rfl⟩; go_wp2_with (fail))
  go_ret
  exact ⟨rfl, by repeat (first | (with_reducible exact Later.refl _) | (with_reducible exact HL.out) | with_reducible apply Later.latr | with_reducible apply Later.alloc | with_reducible apply Later.drew | (with_reducible refine Later.set ?_ (by (simp; try omega)) _))⟩
end Go.Proofs.Ytjgaljnojhkimaa
