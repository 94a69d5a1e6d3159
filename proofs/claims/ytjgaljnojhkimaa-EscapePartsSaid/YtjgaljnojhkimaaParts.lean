/- The walk of EscapeParts: it answers true. Of arguments of their types. -/
import Derived.Test.YtjgaljnojhkimaaAwake
import Derived.Deep.RegionHeldLaw
import Derived.Deep.DrawnRows
namespace Go.Proofs.Ytjgaljnojhkimaa
open Go.RowKit
attribute [local go_sem] ite_max ite_min
attribute [local go_sem ↓] Go.wp_at_zero Go.wp_at_succ
attribute [local go_sem] h_lt1 h_lt2 h_lt3 h_lt4 h_lt5 h_lt6 h_eq1 h_qe1 h_eq2 h_qe2 h_eq3 h_qe3 h_eq4 h_qe4 h_eq5 h_qe5 h_eq6 h_qe6

theorem arr_zero {w : World} (a : Option Addr) (cap : Nat) (h : cap ≤ 9223372036854775807) : Arr w 1 (.slice a 0 cap) 0 [] := ⟨rfl, a, cap, rfl, Nat.zero_le _, by unfold maxLen; omega, fun h => absurd h (by omega)⟩
theorem arr_head {w : World} {a : Option Addr} {n cap k : Nat} {xs : List Value} (h : Arr w 1 (.slice a n cap) n xs) (hk : k ≤ n) : Arr w 1 (.slice a k cap) k (xs.take k) := by
  obtain ⟨h1, a', c', hv, h3, h4, h5⟩ := h
  injection hv with hv1 hv2 hv3
  subst hv1 hv3
  refine ⟨by simp at h1 ⊢; omega, a, cap, rfl, by omega, h4, fun hn => ?_⟩
  obtain ⟨b, off, ha, hb, hc⟩ := h5 (by omega)
  refine ⟨b, off, ha, hb, fun j u hu => hc j u ?_⟩
  have hj : j < k := by
    have := (List.getElem?_eq_some_iff.1 hu).1
    simp at this
    omega
  rw [List.getElem?_take_of_lt hj] at hu
  exact hu
theorem arr_tail {w : World} {b off n cap k : Nat} {xs : List Value} (h : Arr w 1 (.slice (some ⟨b, off, none⟩) n cap) n xs) (hk : k < n) : Arr w 1 (.slice (some ⟨b, off + k, none⟩) (n - k) (cap - k)) (n - k) (xs.drop k) := by
  obtain ⟨h1, a', c', hv, h3, h4, h5⟩ := h
  injection hv with hv1 hv2 hv3
  subst hv3
  refine ⟨by simp at h1 ⊢; omega, _, _, rfl, by omega, by omega, fun hn => ?_⟩
  obtain ⟨b', off', ha, hb, hc⟩ := h5 (by omega)
  rw [← hv1] at ha
  injection ha with ha
  injection ha with ha1 ha2
  subst ha1 ha2
  refine ⟨b, off + k, rfl, hb, fun j u hu => ?_⟩
  rw [List.getElem?_drop] at hu
  rw [Nat.add_assoc]
  exact hc _ u hu
theorem own_shape {w : World} {base : Nat} {e : TypeId} {size : Nat} {v : Value} {n : Nat} {xs : List Value} (h : w.ownsRow base e size v n xs) : Shape v := by
  obtain ⟨_, ⟨h2, _⟩ | ⟨g, cap, cur, h3, _⟩⟩ := h
  · exact .inl h2
  · exact .inr ⟨_, _, _, h3⟩
theorem als_one (l : List Ac) : ∀ u ∈ als l, u.oneCell' = true := by
  intro u hu
  obtain ⟨a, _, ha⟩ := List.mem_flatMap.1 hu
  simp only [al, List.mem_cons, List.not_mem_nil, or_false] at ha
  rcases ha with rfl | rfl | rfl | rfl | rfl | rfl | rfl | rfl | rfl | rfl | rfl | rfl <;> rfl

set_option maxRecDepth 100000 in
set_option maxHeartbeats 16000000 in
theorem parts5 (v : Value) (l : List Int) (cut : Int) (h0 : 0 ≤ cut) (h1 : cut ≤ 65535) (w : World) (hv : Arr w 1 v l.length (l.map iv)) :
    Calls Try.prog 5 #[v, .int .u16 cut] w fun e w' => e = .returned (.bool true) ∧ Later w w' := by
  obtain ⟨j0, hj0, hy0, hy1, hy2⟩ := info_parts info25
  by_cases h300 : 300 < l.length
  · have hd : decide (300 < (l.length : Int)) = true := decide_eq_true (by omega)
    obtain ⟨_, a, cap, rfl, _⟩ := hv
    (go_enter Try.func5, Try.ntmps5; go_wp2_with (fail))
    (refine (awake8 _).mono ?_; rintro e w1 ⟨rfl, x1, rfl⟩; go_wp2_with (fail))
    go_ret
    exact ⟨rfl, by repeat (first | (with_reducible exact Later.refl _) | with_reducible apply Later.latr | with_reducible apply Later.alloc | with_reducible apply Later.drew | (with_reducible refine Later.set ?_ (by (simp; try omega)) _))⟩
  have hd : decide (300 < (l.length : Int)) = false := decide_eq_false (by omega)
  obtain ⟨k, hk, hkk⟩ : ∃ k : Nat, k ≤ l.length ∧ (0 < l.length → cut.tmod (l.length : Int) = (k : Int) ∧ k < l.length) ∧ (l.length = 0 → k = 0) := by
    rcases Nat.eq_zero_or_pos l.length with h | h
    · exact ⟨0, by omega, fun h' => absurd h (by omega), fun _ => rfl⟩
    · have hn : (0 : Int) < (l.length : Int) := by omega
      have e : cut.tmod (l.length : Int) = cut % (l.length : Int) := Int.tmod_eq_emod_of_nonneg h0
      have e1 := Int.emod_nonneg cut (show (l.length : Int) ≠ 0 by omega)
      have e2 := Int.emod_lt_of_pos cut hn
      refine ⟨(cut % (l.length : Int)).toNat, by omega, fun _ => ⟨by rw [e]; omega, by omega⟩, fun h' => by omega⟩
  have hlen1 : (l.take k).length = k := by simp; omega
  have hlen2 : (l.drop k).length = l.length - k := by simp
  have run1 := fun W v' (h : Arr W 1 v' k ((l.take k).map iv)) => acts13 step9 .zero v' (l.take k) W (by omega) (by rw [hlen1]; exact h)
  have run2 := fun W v' (h : Arr W 1 v' (l.length - k) ((l.drop k).map iv)) => acts13 step9 (actsP .zero (l.take k)).2 v' (l.drop k) W (by omega) (by rw [hlen2]; exact h)
  have run3 := fun W v' (h : Arr W 1 v' l.length (l.map iv)) => acts13 step9 .zero v' l W (by omega) h
  have happ := actsP_append .zero (l.take k) (l.drop k)
  rw [List.take_append_drop] at happ
  have hfew := actsP_len l .zero
  have hf1 := actsP_len (l.take k) .zero
  have hf2 := actsP_len (l.drop k) (actsP .zero (l.take k)).2
  rw [happ] at hfew run3
  generalize actsP .zero (l.take k) = r1 at *
  generalize actsP r1.2 (l.drop k) = r2 at *
  rcases arr_cases hv with ⟨a, cap, rfl, h00, _, hmax⟩ | ⟨b, off, cap, rfl, hpos, hlen3, hb, hcap, hmax, hcell⟩
  · obtain rfl : l = [] := List.eq_nil_of_length_eq_zero h00
    obtain rfl : k = 0 := hkk.2 rfl
    have HV := hid hv
    clear hv
    simp only [List.length_nil, Nat.zero_le] at *
    have H1A := hid (arr_zero (w := w) a cap hmax)
    have H2A := hid (arr_zero (w := w) a cap hmax)
    (go_enter Try.func5, Try.ntmps5; go_wp2_with (fail))
    (refine (awake8 _).mono ?_; rintro e w1 ⟨rfl, x1, rfl⟩; go_wp2_with (fail))
    refine (run1 _ _ (H1A.out.latr _)).mono ?_
    rintro e W1 ⟨v1, rfl, hl1, hO1⟩
    have HL1 := hid (Later.trans (a := w) (by repeat (first | (with_reducible exact Later.refl _) | with_reducible apply Later.latr | with_reducible apply Later.alloc | with_reducible apply Later.drew | (with_reducible refine Later.set ?_ (by (simp; try omega)) _))) hl1)
    have HO1 := hid hO1
    clear hl1 hO1
    (try simp only [])
    (repeat go_step)
    obtain ⟨U, hU⟩ : ∃ U, U = W1.alloc (.cells (pc r1.2) 27) := ⟨_, rfl⟩
    have HB1 : Hid (Blk U W1.heap.size 27 (pc r1.2)) := hid (by rw [hU]; exact Blk.new W1 27 _)
    replace HO1 : Hid (U.ownsRow w.heap.size 25 12 v1 r1.1.length (als r1.1)) := hid (by rw [hU]; exact own_mono (HO1.out.alloc _) (by simp [size_latr]))
    have HL : Hid (Later w U) := hid (by rw [hU]; exact by repeat (first | (with_reducible exact Later.refl _) | (with_reducible exact HL1.out) | with_reducible apply Later.latr | with_reducible apply Later.alloc | with_reducible apply Later.drew | (with_reducible refine Later.set ?_ (by (simp; try omega)) _)))
    rw [← hU]
    clear hU HL1
    generalize W1.heap.size = p1 at *
    (obtain ⟨hca0, hca1, hca2, hca3, hca4, hca5, hca6, hca7, hca8, hca9, hca10, hca11, hca12, hfa0, hfa1, hfa2, hfa3, hfa4, hfa5, hfa6, hfa7, hfa8, hfa9, hfa10, hfa11, hfa12, hga⟩ := Blk.at13 (HB1.out))
    replace H2A := hid (H2A.out.later HL.out)
    go_region_held_law (fun w' => w'.cell? ⟨p1, 0, none⟩ = some (.int .i64 r1.2.st) ∧ w'.cell? ⟨p1, 1, none⟩ = some (.int .i64 r1.2.a.kind) ∧ w'.cell? ⟨p1, 2, none⟩ = some (.int .i64 r1.2.a.rune) ∧ w'.cell? ⟨p1, 3, none⟩ = some (.bool r1.2.a.mark) ∧ w'.cell? ⟨p1, 4, none⟩ = some (.int .i64 r1.2.a.many) ∧ w'.cell? ⟨p1, 5, none⟩ = some (.int .i64 r1.2.a.p0) ∧ w'.cell? ⟨p1, 6, none⟩ = some (.int .i64 r1.2.a.p1) ∧ w'.cell? ⟨p1, 7, none⟩ = some (.int .i64 r1.2.a.p2) ∧ w'.cell? ⟨p1, 8, none⟩ = some (.int .i64 r1.2.a.p3) ∧ w'.cell? ⟨p1, 9, none⟩ = some (.int .i64 r1.2.a.p4) ∧ w'.cell? ⟨p1, 10, none⟩ = some (.int .i64 r1.2.a.p5) ∧ w'.cell? ⟨p1, 11, none⟩ = some (.int .i64 r1.2.a.p6) ∧ w'.cell? ⟨p1, 12, none⟩ = some (.int .i64 r1.2.a.p7))
      (exact ⟨(Later.cell (w := U) (by repeat (first | (with_reducible exact Later.refl _) | (with_reducible assumption) | (with_reducible refine later_sets ?_ (by (simp; try omega)) _ _) | with_reducible apply Later.latr | with_reducible apply Later.alloc | with_reducible apply Later.drew | (with_reducible refine Later.set ?_ (by (simp; try omega)) _))) hga).trans hca0, (Later.cell (w := U) (by repeat (first | (with_reducible exact Later.refl _) | (with_reducible assumption) | (with_reducible refine later_sets ?_ (by (simp; try omega)) _ _) | with_reducible apply Later.latr | with_reducible apply Later.alloc | with_reducible apply Later.drew | (with_reducible refine Later.set ?_ (by (simp; try omega)) _))) hga).trans hca1, (Later.cell (w := U) (by repeat (first | (with_reducible exact Later.refl _) | (with_reducible assumption) | (with_reducible refine later_sets ?_ (by (simp; try omega)) _ _) | with_reducible apply Later.latr | with_reducible apply Later.alloc | with_reducible apply Later.drew | (with_reducible refine Later.set ?_ (by (simp; try omega)) _))) hga).trans hca2, (Later.cell (w := U) (by repeat (first | (with_reducible exact Later.refl _) | (with_reducible assumption) | (with_reducible refine later_sets ?_ (by (simp; try omega)) _ _) | with_reducible apply Later.latr | with_reducible apply Later.alloc | with_reducible apply Later.drew | (with_reducible refine Later.set ?_ (by (simp; try omega)) _))) hga).trans hca3, (Later.cell (w := U) (by repeat (first | (with_reducible exact Later.refl _) | (with_reducible assumption) | (with_reducible refine later_sets ?_ (by (simp; try omega)) _ _) | with_reducible apply Later.latr | with_reducible apply Later.alloc | with_reducible apply Later.drew | (with_reducible refine Later.set ?_ (by (simp; try omega)) _))) hga).trans hca4, (Later.cell (w := U) (by repeat (first | (with_reducible exact Later.refl _) | (with_reducible assumption) | (with_reducible refine later_sets ?_ (by (simp; try omega)) _ _) | with_reducible apply Later.latr | with_reducible apply Later.alloc | with_reducible apply Later.drew | (with_reducible refine Later.set ?_ (by (simp; try omega)) _))) hga).trans hca5, (Later.cell (w := U) (by repeat (first | (with_reducible exact Later.refl _) | (with_reducible assumption) | (with_reducible refine later_sets ?_ (by (simp; try omega)) _ _) | with_reducible apply Later.latr | with_reducible apply Later.alloc | with_reducible apply Later.drew | (with_reducible refine Later.set ?_ (by (simp; try omega)) _))) hga).trans hca6, (Later.cell (w := U) (by repeat (first | (with_reducible exact Later.refl _) | (with_reducible assumption) | (with_reducible refine later_sets ?_ (by (simp; try omega)) _ _) | with_reducible apply Later.latr | with_reducible apply Later.alloc | with_reducible apply Later.drew | (with_reducible refine Later.set ?_ (by (simp; try omega)) _))) hga).trans hca7, (Later.cell (w := U) (by repeat (first | (with_reducible exact Later.refl _) | (with_reducible assumption) | (with_reducible refine later_sets ?_ (by (simp; try omega)) _ _) | with_reducible apply Later.latr | with_reducible apply Later.alloc | with_reducible apply Later.drew | (with_reducible refine Later.set ?_ (by (simp; try omega)) _))) hga).trans hca8, (Later.cell (w := U) (by repeat (first | (with_reducible exact Later.refl _) | (with_reducible assumption) | (with_reducible refine later_sets ?_ (by (simp; try omega)) _ _) | with_reducible apply Later.latr | with_reducible apply Later.alloc | with_reducible apply Later.drew | (with_reducible refine Later.set ?_ (by (simp; try omega)) _))) hga).trans hca9, (Later.cell (w := U) (by repeat (first | (with_reducible exact Later.refl _) | (with_reducible assumption) | (with_reducible refine later_sets ?_ (by (simp; try omega)) _ _) | with_reducible apply Later.latr | with_reducible apply Later.alloc | with_reducible apply Later.drew | (with_reducible refine Later.set ?_ (by (simp; try omega)) _))) hga).trans hca10, (Later.cell (w := U) (by repeat (first | (with_reducible exact Later.refl _) | (with_reducible assumption) | (with_reducible refine later_sets ?_ (by (simp; try omega)) _ _) | with_reducible apply Later.latr | with_reducible apply Later.alloc | with_reducible apply Later.drew | (with_reducible refine Later.set ?_ (by (simp; try omega)) _))) hga).trans hca11, (Later.cell (w := U) (by repeat (first | (with_reducible exact Later.refl _) | (with_reducible assumption) | (with_reducible refine later_sets ?_ (by (simp; try omega)) _ _) | with_reducible apply Later.latr | with_reducible apply Later.alloc | with_reducible apply Later.drew | (with_reducible refine Later.set ?_ (by (simp; try omega)) _))) hga).trans hca12⟩)
      (first
      | (go_at_call 13; refine (run2 _ _ ?_).mono ?_; (focus (exact H2A.out.later (by repeat (first | (with_reducible exact Later.refl _) | (with_reducible assumption) | (with_reducible refine later_sets ?_ (by (simp; try omega)) _ _) | with_reducible apply Later.latr | with_reducible apply Later.alloc | with_reducible apply Later.drew | (with_reducible refine Later.set ?_ (by (simp; try omega)) _))))); rintro e W2 ⟨v2, rfl, hl2, hO2⟩; have hl2U : Later U W2 := Later.trans (a := U) (by repeat (first | (with_reducible exact Later.refl _) | (with_reducible assumption) | (with_reducible refine later_sets ?_ (by (simp; try omega)) _ _) | with_reducible apply Later.latr | with_reducible apply Later.alloc | with_reducible apply Later.drew | (with_reducible refine Later.set ?_ (by (simp; try omega)) _))) hl2; (first | (have hBq := (Blk.new U 27 (pc .zero)).drew.later hl2; have htq := hBq.there (o := 0) (n := 13) (by simp)) | skip)))
    · obtain ⟨V, hV⟩ : ∃ V, V = W2.alloc (.cells (pc r2.2) 27) := ⟨_, rfl⟩
      have HB2 : Hid (Blk V W2.heap.size 27 (pc r2.2)) := hid (by rw [hV]; exact Blk.new W2 27 _)
      have HA1 : Hid (V.ownsRow w.heap.size 25 12 v1 r1.1.length (als r1.1)) := hid (by rw [hV]; exact (own_later HO1.out hl2U).alloc _)
      have HA2 : Hid (Arr V 12 v2 r2.1.length (als r2.1)) := hid (by rw [hV]; exact (Arr.of_own hO2).alloc _)
      have HLV : Hid (Later w V) := hid (by rw [hV]; exact (HL.out.trans hl2U).alloc _)
      have HSH := hid (own_shape hO2)
      rw [← hV]
      clear hV hl2 hl2U hO2 HL HO1 hca0 hfa0 hca1 hfa1 hca2 hfa2 hca3 hfa3 hca4 hfa4 hca5 hfa5 hca6 hfa6 hca7 hfa7 hca8 hfa8 hca9 hfa9 hca10 hfa10 hca11 hfa11 hca12 hfa12 hga HB1
      generalize W2.heap.size = p2 at *
      (try simp only [])
      (repeat go_step)
      refine (run3 _ _ (HV.out.later HLV.out)).mono ?_
      rintro e W3 ⟨v3, rfl, hl3, hO3⟩
      have HL3 := hid (HLV.out.trans hl3)
      have HNE : Hid (v3.ownBlock = none ∨ v3.ownBlock ≠ v1.ownBlock) := hid (by
        cases hv : v3.ownBlock with
        | none => exact .inl rfl
        | some g =>
          refine .inr fun he => ?_
          have q1 := (hO3.lt _ hv).1
          have q2 := (HA1.out.lt _ he.symm).2
          omega)
      have HO3 := hid hO3
      replace HB2 := hid (HB2.out.later hl3)
      replace HA1 := hid (own_later HA1.out hl3)
      replace HA2 := hid (HA2.out.later hl3)
      clear hl3 hO3 HLV
      (try simp only [])
      (iterate 18 go_step)
      obtain ⟨X, hX⟩ : ∃ X, X = W3.alloc (.cells (pc r2.2) 27) := ⟨_, rfl⟩
      have HB3 : Hid (Blk X W3.heap.size 27 (pc r2.2)) := hid (by rw [hX]; exact Blk.new W3 27 _)
      replace HB2 : Hid (Blk X p2 27 (pc r2.2)) := hid (by rw [hX]; exact HB2.out.alloc _)
      replace HA1 : Hid (X.ownsRow w.heap.size 25 12 v1 r1.1.length (als r1.1)) := hid (by rw [hX]; exact HA1.out.alloc _)
      replace HA2 : Hid (Arr X 12 v2 r2.1.length (als r2.1)) := hid (by rw [hX]; exact HA2.out.alloc _)
      replace HO3 : Hid (X.ownsRow V.heap.size 25 12 v3 (r1.1 ++ r2.1).length (als (r1.1 ++ r2.1))) := hid (by rw [hX]; exact HO3.out.alloc _)
      replace HL3 : Hid (Later w X) := hid (by rw [hX]; exact HL3.out.alloc _)
      rw [← hX]
      clear hX
      generalize W3.heap.size = p3 at *
      have HLEN4 := hid (show (r1.1 ++ r2.1).length = r1.1.length + r2.1.length from List.length_append)
      generalize hzs : r1.1 ++ r2.1 = zs at *
      obtain ⟨a3, c3, hv3⟩ : ∃ a c, v3 = .slice a zs.length c := by obtain ⟨_, a3, c3, h, _⟩ := Arr.of_own HO3.out; exact ⟨a3, c3, h⟩
      subst hv3
      have hle := hid HL3.out.size
      go_wp2_with (first
        | (at_builtin
           refine list_of_wp (by rfl) (wp_append_arr _ (.tmp 49) (.tmp 50) 34 rfl w.heap.size 25 j0 _ 12 96 Try.underlying34 hj0 hy0 hy1 hy2 rfl (by decide) _ _ _ rfl HA1.out _ _ _ rfl HA2.out HSH.out (als_one _) (by unfold maxLen; omega) (by omega) hle.out ?_)
           intro v5 W5 hO5 hg5))
      have HB5 := hid (HB2.out.grown hg5 (own_blk_ne HA1.out HB2.out (by decide)))
      have HB6 := hid (HB3.out.grown hg5 (own_blk_ne HA1.out HB3.out (by decide)))
      have hA5 := Arr.of_own (HO3.out.kept hg5 HNE.out)
      have hL5 := Later.grown HL3.out hg5 (own_lt HA1.out (Nat.le_refl _))
      have hd9 : decide ((zs.length : Int) ≤ ((0 : Nat) : Int)) = true := decide_eq_true (by have : zs.length ≤ (0 : Nat) := hfew; omega)
      refine (same_eq v5 _ zs _ ?_ hA5).later.mono ?_
      · rw [← hzs, List.length_append, als_append]
        exact .of_own hO5
      rintro e W6 ⟨rfl, hl6⟩
      have HL6 := hid (hL5.trans hl6)
      replace HB5 := hid (HB5.out.later hl6)
      replace HB6 := hid (HB6.out.later hl6)
      clear hl6 hL5 hA5 hO5 hg5
      have htx := HB5.out.there (o := 0) (n := 13) (by simp)
      have hcx := HB5.out.cells 0 13 (pl r2.2) rfl rfl
      have hty := HB6.out.there (o := 0) (n := 13) (by simp)
      have hcy := HB6.out.cells 0 13 (pl r2.2) rfl rfl
      (try simp only [])
      (repeat go_step)
      go_ret
      exact ⟨by show Ending.returned (Value.bool (decide (zs = []))) = _; rw [decide_eq_true (List.eq_nil_of_length_eq_zero (by have : zs.length ≤ 0 := hfew; omega))], HL6.out⟩
    · have hn2 := own_ne_low hO2 (b := U.heap.size) (by simp)
      have hn1 : some U.heap.size ≠ v1.ownBlock := fun he => by have := (HO1.out.lt _ he.symm).2; omega
      have hpw := HL.out.size
      obtain ⟨V, hV⟩ : ∃ V, V = W2.setCells U.heap.size 0 (pl r2.2) := ⟨_, rfl⟩
      have HB2 : Hid (Blk V U.heap.size 27 (pc r2.2)) := hid (by rw [hV]; exact blk_sets (vs := pl r2.2) hBq rfl)
      have HA1 : Hid (V.ownsRow w.heap.size 25 12 v1 r1.1.length (als r1.1)) := hid (by rw [hV]; exact own_sets (own_later HO1.out hl2U) hn1 _ _)
      have HA2 : Hid (Arr V 12 v2 r2.1.length (als r2.1)) := hid (by rw [hV]; exact .of_own (own_sets hO2 hn2 _ _))
      have HLV : Hid (Later w V) := hid (by rw [hV]; exact later_sets (HL.out.trans hl2U) hpw _ _)
      have HSH := hid (own_shape hO2)
      rw [← hV]
      clear hV hl2 hl2U hO2 HL HO1 hca0 hfa0 hca1 hfa1 hca2 hfa2 hca3 hfa3 hca4 hfa4 hca5 hfa5 hca6 hfa6 hca7 hfa7 hca8 hfa8 hca9 hfa9 hca10 hfa10 hca11 hfa11 hca12 hfa12 hga HB1 hBq htq hn1 hn2 hpw
      generalize U.heap.size = p2 at *
      (try simp only [])
      (repeat go_step)
      refine (run3 _ _ (HV.out.later HLV.out)).mono ?_
      rintro e W3 ⟨v3, rfl, hl3, hO3⟩
      have HL3 := hid (HLV.out.trans hl3)
      have HNE : Hid (v3.ownBlock = none ∨ v3.ownBlock ≠ v1.ownBlock) := hid (by
        cases hv : v3.ownBlock with
        | none => exact .inl rfl
        | some g =>
          refine .inr fun he => ?_
          have q1 := (hO3.lt _ hv).1
          have q2 := (HA1.out.lt _ he.symm).2
          omega)
      have HO3 := hid hO3
      replace HB2 := hid (HB2.out.later hl3)
      replace HA1 := hid (own_later HA1.out hl3)
      replace HA2 := hid (HA2.out.later hl3)
      clear hl3 hO3 HLV
      (try simp only [])
      (iterate 18 go_step)
      obtain ⟨X, hX⟩ : ∃ X, X = W3.alloc (.cells (pc r2.2) 27) := ⟨_, rfl⟩
      have HB3 : Hid (Blk X W3.heap.size 27 (pc r2.2)) := hid (by rw [hX]; exact Blk.new W3 27 _)
      replace HB2 : Hid (Blk X p2 27 (pc r2.2)) := hid (by rw [hX]; exact HB2.out.alloc _)
      replace HA1 : Hid (X.ownsRow w.heap.size 25 12 v1 r1.1.length (als r1.1)) := hid (by rw [hX]; exact HA1.out.alloc _)
      replace HA2 : Hid (Arr X 12 v2 r2.1.length (als r2.1)) := hid (by rw [hX]; exact HA2.out.alloc _)
      replace HO3 : Hid (X.ownsRow V.heap.size 25 12 v3 (r1.1 ++ r2.1).length (als (r1.1 ++ r2.1))) := hid (by rw [hX]; exact HO3.out.alloc _)
      replace HL3 : Hid (Later w X) := hid (by rw [hX]; exact HL3.out.alloc _)
      rw [← hX]
      clear hX
      generalize W3.heap.size = p3 at *
      have HLEN4 := hid (show (r1.1 ++ r2.1).length = r1.1.length + r2.1.length from List.length_append)
      generalize hzs : r1.1 ++ r2.1 = zs at *
      obtain ⟨a3, c3, hv3⟩ : ∃ a c, v3 = .slice a zs.length c := by obtain ⟨_, a3, c3, h, _⟩ := Arr.of_own HO3.out; exact ⟨a3, c3, h⟩
      subst hv3
      have hle := hid HL3.out.size
      go_wp2_with (first
        | (at_builtin
           refine list_of_wp (by rfl) (wp_append_arr _ (.tmp 49) (.tmp 50) 34 rfl w.heap.size 25 j0 _ 12 96 Try.underlying34 hj0 hy0 hy1 hy2 rfl (by decide) _ _ _ rfl HA1.out _ _ _ rfl HA2.out HSH.out (als_one _) (by unfold maxLen; omega) (by omega) hle.out ?_)
           intro v5 W5 hO5 hg5))
      have HB5 := hid (HB2.out.grown hg5 (own_blk_ne HA1.out HB2.out (by decide)))
      have HB6 := hid (HB3.out.grown hg5 (own_blk_ne HA1.out HB3.out (by decide)))
      have hA5 := Arr.of_own (HO3.out.kept hg5 HNE.out)
      have hL5 := Later.grown HL3.out hg5 (own_lt HA1.out (Nat.le_refl _))
      have hd9 : decide ((zs.length : Int) ≤ ((0 : Nat) : Int)) = true := decide_eq_true (by have : zs.length ≤ (0 : Nat) := hfew; omega)
      refine (same_eq v5 _ zs _ ?_ hA5).later.mono ?_
      · rw [← hzs, List.length_append, als_append]
        exact .of_own hO5
      rintro e W6 ⟨rfl, hl6⟩
      have HL6 := hid (hL5.trans hl6)
      replace HB5 := hid (HB5.out.later hl6)
      replace HB6 := hid (HB6.out.later hl6)
      clear hl6 hL5 hA5 hO5 hg5
      have htx := HB5.out.there (o := 0) (n := 13) (by simp)
      have hcx := HB5.out.cells 0 13 (pl r2.2) rfl rfl
      have hty := HB6.out.there (o := 0) (n := 13) (by simp)
      have hcy := HB6.out.cells 0 13 (pl r2.2) rfl rfl
      (try simp only [])
      (repeat go_step)
      go_ret
      exact ⟨by show Ending.returned (Value.bool (decide (zs = []))) = _; rw [decide_eq_true (List.eq_nil_of_length_eq_zero (by have : zs.length ≤ 0 := hfew; omega))], HL6.out⟩
  obtain ⟨hmod, hklt⟩ := hkk.1 hpos
  have hne : ((l.length : Int) = 0) = False := by simp only [eq_iff_iff, iff_false]; omega
  have h1a := arr_head hv (Nat.le_of_lt hklt)
  have h2a := arr_tail hv hklt
  rw [← List.map_take] at h1a
  rw [← List.map_drop] at h2a
  have hw1 : IntKind.i64.wrap (k : Int) = (k : Int) := IntWalk.i64_in _ (by omega)
  have b1 : (0 : Int) ≤ (k : Int) := by omega
  have b2 : (k : Int) ≤ (l.length : Int) := by omega
  have b3 : (k : Int) ≤ (cap : Int) := by omega
  have b4 : (l.length : Int) ≤ (cap : Int) := by omega
  have HV := hid hv
  have H1A := hid h1a
  have H2A := hid h2a
  clear hv h1a h2a hcell
  have hp0 : decide (0 < (l.length : Int)) = true := decide_eq_true (by omega)
  (go_enter Try.func5, Try.ntmps5; go_wp2_with (fail))
  (refine (awake8 _).mono ?_; rintro e w1 ⟨rfl, x1, rfl⟩; go_wp2_with (fail))
  refine (run1 _ _ (H1A.out.latr _)).mono ?_
  rintro e W1 ⟨v1, rfl, hl1, hO1⟩
  have HL1 := hid (Later.trans (a := w) (by repeat (first | (with_reducible exact Later.refl _) | with_reducible apply Later.latr | with_reducible apply Later.alloc | with_reducible apply Later.drew | (with_reducible refine Later.set ?_ (by (simp; try omega)) _))) hl1)
  have HO1 := hid hO1
  clear hl1 hO1
  (try simp only [])
  (repeat go_step)
  obtain ⟨U, hU⟩ : ∃ U, U = W1.alloc (.cells (pc r1.2) 27) := ⟨_, rfl⟩
  have HB1 : Hid (Blk U W1.heap.size 27 (pc r1.2)) := hid (by rw [hU]; exact Blk.new W1 27 _)
  replace HO1 : Hid (U.ownsRow w.heap.size 25 12 v1 r1.1.length (als r1.1)) := hid (by rw [hU]; exact own_mono (HO1.out.alloc _) (by simp [size_latr]))
  have HL : Hid (Later w U) := hid (by rw [hU]; exact by repeat (first | (with_reducible exact Later.refl _) | (with_reducible exact HL1.out) | with_reducible apply Later.latr | with_reducible apply Later.alloc | with_reducible apply Later.drew | (with_reducible refine Later.set ?_ (by (simp; try omega)) _)))
  rw [← hU]
  clear hU HL1
  generalize W1.heap.size = p1 at *
  (obtain ⟨hca0, hca1, hca2, hca3, hca4, hca5, hca6, hca7, hca8, hca9, hca10, hca11, hca12, hfa0, hfa1, hfa2, hfa3, hfa4, hfa5, hfa6, hfa7, hfa8, hfa9, hfa10, hfa11, hfa12, hga⟩ := Blk.at13 (HB1.out))
  replace H2A := hid (H2A.out.later HL.out)
  go_region_held_law (fun w' => w'.cell? ⟨p1, 0, none⟩ = some (.int .i64 r1.2.st) ∧ w'.cell? ⟨p1, 1, none⟩ = some (.int .i64 r1.2.a.kind) ∧ w'.cell? ⟨p1, 2, none⟩ = some (.int .i64 r1.2.a.rune) ∧ w'.cell? ⟨p1, 3, none⟩ = some (.bool r1.2.a.mark) ∧ w'.cell? ⟨p1, 4, none⟩ = some (.int .i64 r1.2.a.many) ∧ w'.cell? ⟨p1, 5, none⟩ = some (.int .i64 r1.2.a.p0) ∧ w'.cell? ⟨p1, 6, none⟩ = some (.int .i64 r1.2.a.p1) ∧ w'.cell? ⟨p1, 7, none⟩ = some (.int .i64 r1.2.a.p2) ∧ w'.cell? ⟨p1, 8, none⟩ = some (.int .i64 r1.2.a.p3) ∧ w'.cell? ⟨p1, 9, none⟩ = some (.int .i64 r1.2.a.p4) ∧ w'.cell? ⟨p1, 10, none⟩ = some (.int .i64 r1.2.a.p5) ∧ w'.cell? ⟨p1, 11, none⟩ = some (.int .i64 r1.2.a.p6) ∧ w'.cell? ⟨p1, 12, none⟩ = some (.int .i64 r1.2.a.p7))
    (exact ⟨(Later.cell (w := U) (by repeat (first | (with_reducible exact Later.refl _) | (with_reducible assumption) | (with_reducible refine later_sets ?_ (by (simp; try omega)) _ _) | with_reducible apply Later.latr | with_reducible apply Later.alloc | with_reducible apply Later.drew | (with_reducible refine Later.set ?_ (by (simp; try omega)) _))) hga).trans hca0, (Later.cell (w := U) (by repeat (first | (with_reducible exact Later.refl _) | (with_reducible assumption) | (with_reducible refine later_sets ?_ (by (simp; try omega)) _ _) | with_reducible apply Later.latr | with_reducible apply Later.alloc | with_reducible apply Later.drew | (with_reducible refine Later.set ?_ (by (simp; try omega)) _))) hga).trans hca1, (Later.cell (w := U) (by repeat (first | (with_reducible exact Later.refl _) | (with_reducible assumption) | (with_reducible refine later_sets ?_ (by (simp; try omega)) _ _) | with_reducible apply Later.latr | with_reducible apply Later.alloc | with_reducible apply Later.drew | (with_reducible refine Later.set ?_ (by (simp; try omega)) _))) hga).trans hca2, (Later.cell (w := U) (by repeat (first | (with_reducible exact Later.refl _) | (with_reducible assumption) | (with_reducible refine later_sets ?_ (by (simp; try omega)) _ _) | with_reducible apply Later.latr | with_reducible apply Later.alloc | with_reducible apply Later.drew | (with_reducible refine Later.set ?_ (by (simp; try omega)) _))) hga).trans hca3, (Later.cell (w := U) (by repeat (first | (with_reducible exact Later.refl _) | (with_reducible assumption) | (with_reducible refine later_sets ?_ (by (simp; try omega)) _ _) | with_reducible apply Later.latr | with_reducible apply Later.alloc | with_reducible apply Later.drew | (with_reducible refine Later.set ?_ (by (simp; try omega)) _))) hga).trans hca4, (Later.cell (w := U) (by repeat (first | (with_reducible exact Later.refl _) | (with_reducible assumption) | (with_reducible refine later_sets ?_ (by (simp; try omega)) _ _) | with_reducible apply Later.latr | with_reducible apply Later.alloc | with_reducible apply Later.drew | (with_reducible refine Later.set ?_ (by (simp; try omega)) _))) hga).trans hca5, (Later.cell (w := U) (by repeat (first | (with_reducible exact Later.refl _) | (with_reducible assumption) | (with_reducible refine later_sets ?_ (by (simp; try omega)) _ _) | with_reducible apply Later.latr | with_reducible apply Later.alloc | with_reducible apply Later.drew | (with_reducible refine Later.set ?_ (by (simp; try omega)) _))) hga).trans hca6, (Later.cell (w := U) (by repeat (first | (with_reducible exact Later.refl _) | (with_reducible assumption) | (with_reducible refine later_sets ?_ (by (simp; try omega)) _ _) | with_reducible apply Later.latr | with_reducible apply Later.alloc | with_reducible apply Later.drew | (with_reducible refine Later.set ?_ (by (simp; try omega)) _))) hga).trans hca7, (Later.cell (w := U) (by repeat (first | (with_reducible exact Later.refl _) | (with_reducible assumption) | (with_reducible refine later_sets ?_ (by (simp; try omega)) _ _) | with_reducible apply Later.latr | with_reducible apply Later.alloc | with_reducible apply Later.drew | (with_reducible refine Later.set ?_ (by (simp; try omega)) _))) hga).trans hca8, (Later.cell (w := U) (by repeat (first | (with_reducible exact Later.refl _) | (with_reducible assumption) | (with_reducible refine later_sets ?_ (by (simp; try omega)) _ _) | with_reducible apply Later.latr | with_reducible apply Later.alloc | with_reducible apply Later.drew | (with_reducible refine Later.set ?_ (by (simp; try omega)) _))) hga).trans hca9, (Later.cell (w := U) (by repeat (first | (with_reducible exact Later.refl _) | (with_reducible assumption) | (with_reducible refine later_sets ?_ (by (simp; try omega)) _ _) | with_reducible apply Later.latr | with_reducible apply Later.alloc | with_reducible apply Later.drew | (with_reducible refine Later.set ?_ (by (simp; try omega)) _))) hga).trans hca10, (Later.cell (w := U) (by repeat (first | (with_reducible exact Later.refl _) | (with_reducible assumption) | (with_reducible refine later_sets ?_ (by (simp; try omega)) _ _) | with_reducible apply Later.latr | with_reducible apply Later.alloc | with_reducible apply Later.drew | (with_reducible refine Later.set ?_ (by (simp; try omega)) _))) hga).trans hca11, (Later.cell (w := U) (by repeat (first | (with_reducible exact Later.refl _) | (with_reducible assumption) | (with_reducible refine later_sets ?_ (by (simp; try omega)) _ _) | with_reducible apply Later.latr | with_reducible apply Later.alloc | with_reducible apply Later.drew | (with_reducible refine Later.set ?_ (by (simp; try omega)) _))) hga).trans hca12⟩)
    (first
    | (go_at_call 13; refine (run2 _ _ ?_).mono ?_; (focus (exact H2A.out.later (by repeat (first | (with_reducible exact Later.refl _) | (with_reducible assumption) | (with_reducible refine later_sets ?_ (by (simp; try omega)) _ _) | with_reducible apply Later.latr | with_reducible apply Later.alloc | with_reducible apply Later.drew | (with_reducible refine Later.set ?_ (by (simp; try omega)) _))))); rintro e W2 ⟨v2, rfl, hl2, hO2⟩; have hl2U : Later U W2 := Later.trans (a := U) (by repeat (first | (with_reducible exact Later.refl _) | (with_reducible assumption) | (with_reducible refine later_sets ?_ (by (simp; try omega)) _ _) | with_reducible apply Later.latr | with_reducible apply Later.alloc | with_reducible apply Later.drew | (with_reducible refine Later.set ?_ (by (simp; try omega)) _))) hl2; (first | (have hBq := (Blk.new U 27 (pc .zero)).drew.later hl2; have htq := hBq.there (o := 0) (n := 13) (by simp)) | skip)))
  · obtain ⟨V, hV⟩ : ∃ V, V = W2.alloc (.cells (pc r2.2) 27) := ⟨_, rfl⟩
    have HB2 : Hid (Blk V W2.heap.size 27 (pc r2.2)) := hid (by rw [hV]; exact Blk.new W2 27 _)
    have HA1 : Hid (V.ownsRow w.heap.size 25 12 v1 r1.1.length (als r1.1)) := hid (by rw [hV]; exact (own_later HO1.out hl2U).alloc _)
    have HA2 : Hid (Arr V 12 v2 r2.1.length (als r2.1)) := hid (by rw [hV]; exact (Arr.of_own hO2).alloc _)
    have HLV : Hid (Later w V) := hid (by rw [hV]; exact (HL.out.trans hl2U).alloc _)
    have HSH := hid (own_shape hO2)
    rw [← hV]
    clear hV hl2 hl2U hO2 HL HO1 hca0 hfa0 hca1 hfa1 hca2 hfa2 hca3 hfa3 hca4 hfa4 hca5 hfa5 hca6 hfa6 hca7 hfa7 hca8 hfa8 hca9 hfa9 hca10 hfa10 hca11 hfa11 hca12 hfa12 hga HB1
    generalize W2.heap.size = p2 at *
    (try simp only [])
    (repeat go_step)
    refine (run3 _ _ (HV.out.later HLV.out)).mono ?_
    rintro e W3 ⟨v3, rfl, hl3, hO3⟩
    have HL3 := hid (HLV.out.trans hl3)
    have HNE : Hid (v3.ownBlock = none ∨ v3.ownBlock ≠ v1.ownBlock) := hid (by
      cases hv : v3.ownBlock with
      | none => exact .inl rfl
      | some g =>
        refine .inr fun he => ?_
        have q1 := (hO3.lt _ hv).1
        have q2 := (HA1.out.lt _ he.symm).2
        omega)
    have HO3 := hid hO3
    replace HB2 := hid (HB2.out.later hl3)
    replace HA1 := hid (own_later HA1.out hl3)
    replace HA2 := hid (HA2.out.later hl3)
    clear hl3 hO3 HLV
    (try simp only [])
    (iterate 18 go_step)
    obtain ⟨X, hX⟩ : ∃ X, X = W3.alloc (.cells (pc r2.2) 27) := ⟨_, rfl⟩
    have HB3 : Hid (Blk X W3.heap.size 27 (pc r2.2)) := hid (by rw [hX]; exact Blk.new W3 27 _)
    replace HB2 : Hid (Blk X p2 27 (pc r2.2)) := hid (by rw [hX]; exact HB2.out.alloc _)
    replace HA1 : Hid (X.ownsRow w.heap.size 25 12 v1 r1.1.length (als r1.1)) := hid (by rw [hX]; exact HA1.out.alloc _)
    replace HA2 : Hid (Arr X 12 v2 r2.1.length (als r2.1)) := hid (by rw [hX]; exact HA2.out.alloc _)
    replace HO3 : Hid (X.ownsRow V.heap.size 25 12 v3 (r1.1 ++ r2.1).length (als (r1.1 ++ r2.1))) := hid (by rw [hX]; exact HO3.out.alloc _)
    replace HL3 : Hid (Later w X) := hid (by rw [hX]; exact HL3.out.alloc _)
    rw [← hX]
    clear hX
    generalize W3.heap.size = p3 at *
    have HLEN4 := hid (show (r1.1 ++ r2.1).length = r1.1.length + r2.1.length from List.length_append)
    generalize hzs : r1.1 ++ r2.1 = zs at *
    obtain ⟨a3, c3, hv3⟩ : ∃ a c, v3 = .slice a zs.length c := by obtain ⟨_, a3, c3, h, _⟩ := Arr.of_own HO3.out; exact ⟨a3, c3, h⟩
    subst hv3
    have hle := hid HL3.out.size
    go_wp2_with (first
      | (at_builtin
         refine list_of_wp (by rfl) (wp_append_arr _ (.tmp 49) (.tmp 50) 34 rfl w.heap.size 25 j0 _ 12 96 Try.underlying34 hj0 hy0 hy1 hy2 rfl (by decide) _ _ _ rfl HA1.out _ _ _ rfl HA2.out HSH.out (als_one _) (by unfold maxLen; omega) (by omega) hle.out ?_)
         intro v5 W5 hO5 hg5))
    have HB5 := hid (HB2.out.grown hg5 (own_blk_ne HA1.out HB2.out (by decide)))
    have HB6 := hid (HB3.out.grown hg5 (own_blk_ne HA1.out HB3.out (by decide)))
    have hA5 := Arr.of_own (HO3.out.kept hg5 HNE.out)
    have hL5 := Later.grown HL3.out hg5 (own_lt HA1.out (Nat.le_refl _))
    have hd9 : decide ((zs.length : Int) ≤ (l.length : Int)) = true := decide_eq_true (by have : zs.length ≤ l.length := hfew; omega)
    refine (same_eq v5 _ zs _ ?_ hA5).later.mono ?_
    · rw [← hzs, List.length_append, als_append]
      exact .of_own hO5
    rintro e W6 ⟨rfl, hl6⟩
    have HL6 := hid (hL5.trans hl6)
    replace HB5 := hid (HB5.out.later hl6)
    replace HB6 := hid (HB6.out.later hl6)
    clear hl6 hL5 hA5 hO5 hg5
    have htx := HB5.out.there (o := 0) (n := 13) (by simp)
    have hcx := HB5.out.cells 0 13 (pl r2.2) rfl rfl
    have hty := HB6.out.there (o := 0) (n := 13) (by simp)
    have hcy := HB6.out.cells 0 13 (pl r2.2) rfl rfl
    (try simp only [])
    (repeat go_step)
    go_ret
    exact ⟨rfl, HL6.out⟩
  · have hn2 := own_ne_low hO2 (b := U.heap.size) (by simp)
    have hn1 : some U.heap.size ≠ v1.ownBlock := fun he => by have := (HO1.out.lt _ he.symm).2; omega
    have hpw := HL.out.size
    obtain ⟨V, hV⟩ : ∃ V, V = W2.setCells U.heap.size 0 (pl r2.2) := ⟨_, rfl⟩
    have HB2 : Hid (Blk V U.heap.size 27 (pc r2.2)) := hid (by rw [hV]; exact blk_sets (vs := pl r2.2) hBq rfl)
    have HA1 : Hid (V.ownsRow w.heap.size 25 12 v1 r1.1.length (als r1.1)) := hid (by rw [hV]; exact own_sets (own_later HO1.out hl2U) hn1 _ _)
    have HA2 : Hid (Arr V 12 v2 r2.1.length (als r2.1)) := hid (by rw [hV]; exact .of_own (own_sets hO2 hn2 _ _))
    have HLV : Hid (Later w V) := hid (by rw [hV]; exact later_sets (HL.out.trans hl2U) hpw _ _)
    have HSH := hid (own_shape hO2)
    rw [← hV]
    clear hV hl2 hl2U hO2 HL HO1 hca0 hfa0 hca1 hfa1 hca2 hfa2 hca3 hfa3 hca4 hfa4 hca5 hfa5 hca6 hfa6 hca7 hfa7 hca8 hfa8 hca9 hfa9 hca10 hfa10 hca11 hfa11 hca12 hfa12 hga HB1 hBq htq hn1 hn2 hpw
    generalize U.heap.size = p2 at *
    (try simp only [])
    (repeat go_step)
    refine (run3 _ _ (HV.out.later HLV.out)).mono ?_
    rintro e W3 ⟨v3, rfl, hl3, hO3⟩
    have HL3 := hid (HLV.out.trans hl3)
    have HNE : Hid (v3.ownBlock = none ∨ v3.ownBlock ≠ v1.ownBlock) := hid (by
      cases hv : v3.ownBlock with
      | none => exact .inl rfl
      | some g =>
        refine .inr fun he => ?_
        have q1 := (hO3.lt _ hv).1
        have q2 := (HA1.out.lt _ he.symm).2
        omega)
    have HO3 := hid hO3
    replace HB2 := hid (HB2.out.later hl3)
    replace HA1 := hid (own_later HA1.out hl3)
    replace HA2 := hid (HA2.out.later hl3)
    clear hl3 hO3 HLV
    (try simp only [])
    (iterate 18 go_step)
    obtain ⟨X, hX⟩ : ∃ X, X = W3.alloc (.cells (pc r2.2) 27) := ⟨_, rfl⟩
    have HB3 : Hid (Blk X W3.heap.size 27 (pc r2.2)) := hid (by rw [hX]; exact Blk.new W3 27 _)
    replace HB2 : Hid (Blk X p2 27 (pc r2.2)) := hid (by rw [hX]; exact HB2.out.alloc _)
    replace HA1 : Hid (X.ownsRow w.heap.size 25 12 v1 r1.1.length (als r1.1)) := hid (by rw [hX]; exact HA1.out.alloc _)
    replace HA2 : Hid (Arr X 12 v2 r2.1.length (als r2.1)) := hid (by rw [hX]; exact HA2.out.alloc _)
    replace HO3 : Hid (X.ownsRow V.heap.size 25 12 v3 (r1.1 ++ r2.1).length (als (r1.1 ++ r2.1))) := hid (by rw [hX]; exact HO3.out.alloc _)
    replace HL3 : Hid (Later w X) := hid (by rw [hX]; exact HL3.out.alloc _)
    rw [← hX]
    clear hX
    generalize W3.heap.size = p3 at *
    have HLEN4 := hid (show (r1.1 ++ r2.1).length = r1.1.length + r2.1.length from List.length_append)
    generalize hzs : r1.1 ++ r2.1 = zs at *
    obtain ⟨a3, c3, hv3⟩ : ∃ a c, v3 = .slice a zs.length c := by obtain ⟨_, a3, c3, h, _⟩ := Arr.of_own HO3.out; exact ⟨a3, c3, h⟩
    subst hv3
    have hle := hid HL3.out.size
    go_wp2_with (first
      | (at_builtin
         refine list_of_wp (by rfl) (wp_append_arr _ (.tmp 49) (.tmp 50) 34 rfl w.heap.size 25 j0 _ 12 96 Try.underlying34 hj0 hy0 hy1 hy2 rfl (by decide) _ _ _ rfl HA1.out _ _ _ rfl HA2.out HSH.out (als_one _) (by unfold maxLen; omega) (by omega) hle.out ?_)
         intro v5 W5 hO5 hg5))
    have HB5 := hid (HB2.out.grown hg5 (own_blk_ne HA1.out HB2.out (by decide)))
    have HB6 := hid (HB3.out.grown hg5 (own_blk_ne HA1.out HB3.out (by decide)))
    have hA5 := Arr.of_own (HO3.out.kept hg5 HNE.out)
    have hL5 := Later.grown HL3.out hg5 (own_lt HA1.out (Nat.le_refl _))
    have hd9 : decide ((zs.length : Int) ≤ (l.length : Int)) = true := decide_eq_true (by have : zs.length ≤ l.length := hfew; omega)
    refine (same_eq v5 _ zs _ ?_ hA5).later.mono ?_
    · rw [← hzs, List.length_append, als_append]
      exact .of_own hO5
    rintro e W6 ⟨rfl, hl6⟩
    have HL6 := hid (hL5.trans hl6)
    replace HB5 := hid (HB5.out.later hl6)
    replace HB6 := hid (HB6.out.later hl6)
    clear hl6 hL5 hA5 hO5 hg5
    have htx := HB5.out.there (o := 0) (n := 13) (by simp)
    have hcx := HB5.out.cells 0 13 (pl r2.2) rfl rfl
    have hty := HB6.out.there (o := 0) (n := 13) (by simp)
    have hcy := HB6.out.cells 0 13 (pl r2.2) rfl rfl
    (try simp only [])
    (repeat go_step)
    go_ret
    exact ⟨rfl, HL6.out⟩
end Go.Proofs.Ytjgaljnojhkimaa
