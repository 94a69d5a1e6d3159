/- The walk of UtfTells: it answers true. Of arguments of their types. -/
import Derived.Test.YtlkiogjjhhafnaaAwake
namespace Go.Proofs.Ytlkiogjjhhafnaa
open Go.RowKit
attribute [local go_sem] ite_max ite_min
attribute [local go_sem ↓] Go.wp_at_zero Go.wp_at_succ
attribute [local go_sem] h_lt1 h_lt2 h_lt3 h_lt4 h_lt5 h_lt6 h_eq1 h_qe1 h_eq2 h_qe2 h_eq3 h_qe3 h_eq4 h_qe4 h_eq5 h_qe5 h_eq6 h_qe6

set_option maxRecDepth 100000 in
set_option maxHeartbeats 16000000 in
theorem tells3 (u : Ut) (b : Int) (h0 : 0 ≤ b) (h1 : b < 256) (v : Value) (l : List Int) (w : World) (hv : Arr w 1 v l.length (l.map iv)) :
    Calls Try.prog 3 #[uv u, .int .u8 b, v] w fun e w' => e = .returned (.bool true) ∧ Later w w' := by
  obtain ⟨a, cap, hvv⟩ : ∃ a cap, v = .slice a l.length cap := by obtain ⟨_, a, cap, h, _⟩ := hv; exact ⟨a, cap, h⟩
  by_cases h100 : 100 < l.length
  · have hd : decide (100 < (l.length : Int)) = true := decide_eq_true (by omega)
    clear hv
    subst hvv
    (go_enter Try.func3, Try.ntmps3; go_wp2_with (fail))
    (refine (awake7 _).mono ?_; rintro e w1 ⟨rfl, x1, rfl⟩; go_wp2_with (fail))
    go_ret
    exact ⟨rfl, by repeat (first | (with_reducible exact Later.refl _) | with_reducible apply Later.latr | with_reducible apply Later.alloc | with_reducible apply Later.drew | (with_reducible refine Later.set ?_ (by (simp; try omega)) _))⟩
  have hd : decide (100 < (l.length : Int)) = false := decide_eq_false (by omega)
  have hs8 := step8 u b h0 h1
  have hs9 := step9 u b h0 h1
  have hl2 := step_len u b
  generalize stepU u b = r at *
  have HV := hid hv
  clear hv
  subst hvv
  (go_enter Try.func3, Try.ntmps3; go_wp2_with (fail))
  (refine (awake7 _).mono ?_; rintro e w1 ⟨rfl, x1, rfl⟩; go_wp2_with (fail))
  refine (hs8 _).mono ?_
  rintro e W1 ⟨v1, rfl, hl1, hO1⟩
  have HL1 := hid (Later.trans (a := w) (by repeat (first | (with_reducible exact Later.refl _) | with_reducible apply Later.latr | with_reducible apply Later.alloc | with_reducible apply Later.drew | (with_reducible refine Later.set ?_ (by (simp; try omega)) _))) hl1)
  have HA1 := hid (Arr.of_own hO1)
  have HU := hid ((((Blk.new w 23 (uc u)).latr x1)).later hl1)
  clear hl1 hO1
  (obtain ⟨hcu0, hcu1, hcu2, hfu0, hfu1, hfu2, hgu⟩ := Blk.at3 (HU.out))
  go_wp2_with (fail)
  refine (hs9 _).mono ?_
  rintro e W2 ⟨v2, rfl, hl2', hO2⟩
  have HL2 := hid (Later.trans (a := w) (by repeat (first | (with_reducible exact Later.refl _) | (with_reducible exact HL1.out) | with_reducible apply Later.latr | with_reducible apply Later.alloc | with_reducible apply Later.drew | (with_reducible refine Later.set ?_ (by (simp; try omega)) _))) hl2')
  have HB1 := hid ((Blk.new W1 23 (uc r.1)).later hl2')
  replace HA1 := hid ((HA1.out.alloc (.cells (uc r.1) 23)).later hl2')
  have HA2 := hid (Arr.of_own hO2)
  clear hl2' hO2 HL1 hcu0 hcu1 hcu2 hfu0 hfu1 hfu2 hgu HU
  generalize W1.heap.size = b1 at *
  go_wp2_with (fail)
  obtain ⟨U, hU⟩ : ∃ U, U = W2.alloc (.cells (uc r.1) 23) := ⟨_, rfl⟩
  have HB2 : Hid (Blk U W2.heap.size 23 (uc r.1)) := hid (by rw [hU]; exact Blk.new W2 23 _)
  replace HB1 : Hid (Blk U b1 23 (uc r.1)) := hid (by rw [hU]; exact HB1.out.alloc _)
  replace HA1 : Hid (Arr U 1 v1 r.2.length (r.2.map iv)) := hid (by rw [hU]; exact HA1.out.alloc _)
  replace HA2 : Hid (Arr U 1 v2 r.2.length (r.2.map iv)) := hid (by rw [hU]; exact HA2.out.alloc _)
  have HL : Hid (Later w U) := hid (by rw [hU]; exact by repeat (first | (with_reducible exact Later.refl _) | (with_reducible exact HL2.out) | with_reducible apply Later.latr | with_reducible apply Later.alloc | with_reducible apply Later.drew | (with_reducible refine Later.set ?_ (by (simp; try omega)) _)))
  rw [← hU]
  clear hU HL2
  replace HV := hid (HV.out.later HL.out)
  generalize W2.heap.size = b2 at *
  (obtain ⟨hca0, hca1, hca2, hfa0, hfa1, hfa2, hga⟩ := Blk.at3 (HB1.out))
  (obtain ⟨hcc0, hcc1, hcc2, hfc0, hfc1, hfc2, hgc⟩ := Blk.at3 (HB2.out))
  go_region_held_law (fun w' => w'.cell? ⟨b1, 0, none⟩ = some (.int .i64 r.1.need) ∧ w'.cell? ⟨b1, 1, none⟩ = some (.int .i64 r.1.val) ∧ w'.cell? ⟨b1, 2, none⟩ = some (.int .i64 r.1.least) ∧ w'.cell? ⟨b2, 0, none⟩ = some (.int .i64 r.1.need) ∧ w'.cell? ⟨b2, 1, none⟩ = some (.int .i64 r.1.val) ∧ w'.cell? ⟨b2, 2, none⟩ = some (.int .i64 r.1.least))
    (exact ⟨(Later.cell (w := U) (by repeat (first | (with_reducible exact Later.refl _) | (with_reducible assumption) | with_reducible apply Later.latr | with_reducible apply Later.alloc | with_reducible apply Later.drew | (with_reducible refine Later.set ?_ (by (simp; try omega)) _))) hga).trans hca0, (Later.cell (w := U) (by repeat (first | (with_reducible exact Later.refl _) | (with_reducible assumption) | with_reducible apply Later.latr | with_reducible apply Later.alloc | with_reducible apply Later.drew | (with_reducible refine Later.set ?_ (by (simp; try omega)) _))) hga).trans hca1, (Later.cell (w := U) (by repeat (first | (with_reducible exact Later.refl _) | (with_reducible assumption) | with_reducible apply Later.latr | with_reducible apply Later.alloc | with_reducible apply Later.drew | (with_reducible refine Later.set ?_ (by (simp; try omega)) _))) hga).trans hca2, (Later.cell (w := U) (by repeat (first | (with_reducible exact Later.refl _) | (with_reducible assumption) | with_reducible apply Later.latr | with_reducible apply Later.alloc | with_reducible apply Later.drew | (with_reducible refine Later.set ?_ (by (simp; try omega)) _))) hgc).trans hcc0, (Later.cell (w := U) (by repeat (first | (with_reducible exact Later.refl _) | (with_reducible assumption) | with_reducible apply Later.latr | with_reducible apply Later.alloc | with_reducible apply Later.drew | (with_reducible refine Later.set ?_ (by (simp; try omega)) _))) hgc).trans hcc1, (Later.cell (w := U) (by repeat (first | (with_reducible exact Later.refl _) | (with_reducible assumption) | with_reducible apply Later.latr | with_reducible apply Later.alloc | with_reducible apply Later.drew | (with_reducible refine Later.set ?_ (by (simp; try omega)) _))) hgc).trans hcc2⟩)
    (first
    | (go_at_call 10; refine (same_true v1 v2 r.2 _ ?_ ?_).later.mono ?_; (focus ((repeat (first | (with_reducible exact HA1.out) | with_reducible apply Arr.latr | (with_reducible refine Arr.alloc ?_ _) | (with_reducible refine Arr.drew ?_))); done)); (focus ((repeat (first | (with_reducible exact HA2.out) | with_reducible apply Arr.latr | (with_reducible refine Arr.alloc ?_ _) | (with_reducible refine Arr.drew ?_))); done)); rintro e B ⟨rfl, hlB⟩; have hlBU : Later U B := Later.trans (a := U) (by repeat (first | (with_reducible exact Later.refl _) | with_reducible apply Later.latr | with_reducible apply Later.alloc | with_reducible apply Later.drew | (with_reducible refine Later.set ?_ (by (simp; try omega)) _))) hlB)
    | (go_at_call 11; refine (bytes11 _ l _ (by omega) ?_).mono ?_; (focus (exact HV.out.later (by repeat (first | (with_reducible exact Later.refl _) | (with_reducible assumption) | with_reducible apply Later.latr | with_reducible apply Later.alloc | with_reducible apply Later.drew | (with_reducible refine Later.set ?_ (by (simp; try omega)) _))))); rintro e W4 ⟨v4, rfl, hl4, hO4⟩; have hl4U : Later U W4 := Later.trans (a := U) (by repeat (first | (with_reducible exact Later.refl _) | (with_reducible assumption) | with_reducible apply Later.latr | with_reducible apply Later.alloc | with_reducible apply Later.drew | (with_reducible refine Later.set ?_ (by (simp; try omega)) _))) hl4; have hc4 := conv_own hO4)
    | (go_at_call 12; refine (bytes12 _ l _ (by omega) ?_).mono ?_; (focus (exact HV.out.later (by repeat (first | (with_reducible exact Later.refl _) | (with_reducible assumption) | with_reducible apply Later.latr | with_reducible apply Later.alloc | with_reducible apply Later.drew | (with_reducible refine Later.set ?_ (by (simp; try omega)) _))))); rintro e W5 ⟨v5, rfl, hl5, hO5⟩; have hl5U : Later U W5 := Later.trans (a := U) (by repeat (first | (with_reducible exact Later.refl _) | (with_reducible assumption) | with_reducible apply Later.latr | with_reducible apply Later.alloc | with_reducible apply Later.drew | (with_reducible refine Later.set ?_ (by (simp; try omega)) _))) hl5; have hc5 := conv_own hO5; have hc6 := conv_own (own_later hO4 hl5)))
  all_goals
    go_wp2_with (fail)
    go_ret
    exact ⟨rfl, Later.trans (a := w) HL.out (by repeat (first | (with_reducible exact Later.refl _) | (with_reducible assumption) | with_reducible apply Later.latr | with_reducible apply Later.alloc | with_reducible apply Later.drew | (with_reducible refine Later.set ?_ (by (simp; try omega)) _)))⟩
end Go.Proofs.Ytlkiogjjhhafnaa
