/- The walk of the statements' head (awake): it answers true. No condition. -/
import Derived.Test.YtjgaljnojhkimaaStep
import Derived.Test.YtjgaljnojhkimaaActs
import Derived.Test.YtjgaljnojhkimaaRunes
import Derived.Test.YtjgaljnojhkimaaParam
namespace Go.Proofs.Ytjgaljnojhkimaa
open Go.RowKit
attribute [local go_sem] ite_max ite_min
attribute [local go_sem] h_lt1 h_lt2 h_lt3 h_lt4 h_lt5 h_lt6 h_eq1 h_qe1 h_eq2 h_qe2 h_eq3 h_qe3 h_eq4 h_qe4 h_eq5 h_qe5 h_eq6 h_qe6

abbrev hideA : Ac := ⟨4, 108, true, 0, 25, 0, 0, 0, 0, 0, 0, 0⟩
abbrev redA : Ac := ⟨4, 109, false, 1, 1, 31, 0, 0, 0, 0, 0, 0⟩
theorem run_s1 (W : World) : Calls Try.prog 15 #[.string { data := #[27, 91, 63, 50, 53, 108] }] W fun e w' => ∃ v, e = .returned v ∧ Later W w' ∧ Arr w' 1 v 6 (([27, 91, 63, 50, 53, 108] : List Int).map iv) :=
  (runes15 _ (by decide) W).mono fun _ _ ⟨v, he, hl, ho⟩ => ⟨v, he, hl, .of_own ho⟩
theorem run_s2 (W : World) : Calls Try.prog 15 #[.string { data := #[27, 91, 49, 59, 51, 49, 109, 65, 10, 66] }] W fun e w' => ∃ v, e = .returned v ∧ Later W w' ∧ Arr w' 1 v 10 (([27, 91, 49, 59, 51, 49, 109, 65, 10, 66] : List Int).map iv) :=
  (runes15 _ (by decide) W).mono fun _ _ ⟨v, he, hl, ho⟩ => ⟨v, he, hl, .of_own ho⟩
theorem run_s3 (W : World) : Calls Try.prog 15 #[.string { data := #[27, 93, 48, 59, 120, 10, 7, 121, 27, 77, 27, 91] }] W fun e w' => ∃ v, e = .returned v ∧ Later W w' ∧ Arr w' 1 v 12 (([27, 93, 48, 59, 120, 10, 7, 121, 27, 77, 27, 91] : List Int).map iv) :=
  (runes15 _ (by decide) W).mono fun _ _ ⟨v, he, hl, ho⟩ => ⟨v, he, hl, .of_own ho⟩
theorem act_1 (v : Value) (W : World) (h : Arr W 1 v 6 (([27, 91, 63, 50, 53, 108] : List Int).map iv)) : Calls Try.prog 13 #[pv .zero, v] W (MadeA W ([hideA], .zero)) := by
  have e : actsP .zero [27, 91, 63, 50, 53, 108] = ([hideA], .zero) := by decide
  rw [← e]
  exact acts13 step9 .zero v _ W (by decide) h
theorem act_2 (v : Value) (W : World) (h : Arr W 1 v 10 (([27, 91, 49, 59, 51, 49, 109, 65, 10, 66] : List Int).map iv)) : Calls Try.prog 13 #[pv .zero, v] W (MadeA W ([redA, .of 1 65, .of 2 10, .of 1 66], .zero)) := by
  have e : actsP .zero [27, 91, 49, 59, 51, 49, 109, 65, 10, 66] = ([redA, .of 1 65, .of 2 10, .of 1 66], .zero) := by decide
  rw [← e]
  exact acts13 step9 .zero v _ W (by decide) h
theorem act_3 (v : Value) (W : World) (h : Arr W 1 v 12 (([27, 93, 48, 59, 120, 10, 7, 121, 27, 77, 27, 91] : List Int).map iv)) : Calls Try.prog 13 #[pv .zero, v] W (MadeA W ([.of 1 121, .of 3 77], .at 2)) := by
  have e : actsP .zero [27, 93, 48, 59, 120, 10, 7, 121, 27, 77, 27, 91] = ([.of 1 121, .of 3 77], .at 2) := by decide
  rw [← e]
  exact acts13 step9 .zero v _ W (by decide) h

theorem par_1 (W : World) : Gives Try.prog 11 #[av redA, .int .i64 1, .int .i64 7] W (.int .i64 31) := (param11 redA 1 7 W).cast (by rw [show paramA redA 1 7 = 31 by decide])
theorem par_2 (W : World) : Gives Try.prog 11 #[av redA, .int .i64 2, .int .i64 7] W (.int .i64 7) := (param11 redA 2 7 W).cast (by rw [show paramA redA 2 7 = 7 by decide])
theorem par_8 (W : World) : Gives Try.prog 11 #[av redA, .int .i64 8, .int .i64 7] W (.int .i64 7) := (param11 redA 8 7 W).cast (by rw [show paramA redA 8 7 = 7 by decide])
theorem same_eq (v1 v2 : Value) (l : List Ac) (w : World) (h1 : Arr w 12 v1 l.length (als l)) (h2 : Arr w 12 v2 l.length (als l)) : Gives Try.prog 14 #[v1, v2] w (.bool true) := (same14 v1 v2 l l w h1 h2).cast (by simp)

set_option maxRecDepth 100000 in
set_option maxHeartbeats 16000000 in
theorem awake8 (w : World) : Gives Try.prog 8 #[] w (.bool true) := by
  apply gives_of
  (go_enter Try.func8, Try.ntmps8; go_wp2_with (fail))
  refine (run_s1 _).mono ?_
  rintro e W1 ⟨v1, rfl, hl1, hA1⟩
  go_wp2_with (fail)
  refine (act_1 _ _ hA1).mono ?_
  rintro e W2 ⟨v2, rfl, hl2, hO2⟩
  have HA2 := hid (Arr.of_own hO2)
  have HL2 := hid (hl1.trans hl2)
  clear hl1 hl2 hO2 hA1
  (simp only [])
  (repeat go_step)
  refine (run_s2 _).mono ?_
  rintro e W3 ⟨v3, rfl, hl3, hA3⟩
  go_wp2_with (fail)
  refine (act_2 _ _ hA3).mono ?_
  rintro e W4 ⟨v4, rfl, hl4, hO4⟩
  replace HA2 := hid (((HA2.out.later ((Later.refl _).alloc (.cells (pc .zero) 27))).later hl3).later hl4)
  have H2 := hid (((Blk.new W2 27 (pc .zero)).later hl3).later hl4)
  have HL4 := hid (((HL2.out.alloc (.cells (pc .zero) 27)).trans hl3).trans hl4)
  have HA4 := hid (Arr.of_own hO4)
  clear hl3 hl4 hO4 hA3 HL2
  generalize W2.heap.size = b2 at *
  (simp only [])
  (repeat go_step)
  refine (run_s3 _).mono ?_
  rintro e W5 ⟨v5, rfl, hl5, hA5⟩
  go_wp2_with (fail)
  refine (act_3 _ _ hA5).mono ?_
  rintro e W6 ⟨v6, rfl, hl6, hO6⟩
  replace HA2 := hid (((HA2.out.later ((Later.refl _).alloc (.cells (pc .zero) 27))).later hl5).later hl6)
  replace HA4 := hid (((HA4.out.later ((Later.refl _).alloc (.cells (pc .zero) 27))).later hl5).later hl6)
  replace H2 := hid (((H2.out.alloc (.cells (pc .zero) 27)).later hl5).later hl6)
  have HL6 := hid (((HL4.out.alloc (.cells (pc .zero) 27)).trans hl5).trans hl6)
  have HA6 := hid (Arr.of_own hO6)
  clear hl5 hl6 hO6 hA5 HL4
  generalize W4.heap.size = b4 at *
  (simp only [])
  (repeat go_step)
  refine (same_eq v2 _ [hideA] _ (HA2.out.later (by repeat (first | (with_reducible exact Later.refl _) | with_reducible apply Later.latr | with_reducible apply Later.alloc | with_reducible apply Later.drew | (with_reducible refine Later.set ?_ (by (simp; try omega)) _)))) (arr_new (xs := al hideA) (n := 1) (size := 12) (by simp) rfl (by decide))).later.mono ?_
  rintro e W7 ⟨rfl, hl7⟩
  have B6 := hid ((show Blk _ W6.heap.size 27 (pc (.at 2)) from (by repeat (first | (with_reducible assumption) | (with_reducible exact blk_new (by first | rfl | (simp; done))) | with_reducible apply Blk.alloc | with_reducible apply Blk.drew | with_reducible apply Blk.latr | (with_reducible refine Blk.far ?_ (by (simp; try omega)) _)))).later hl7)
  have B8 := hid ((show Blk _ (W6.heap.size + 1 + 1) 25 (ac redA) from (by repeat (first | (with_reducible assumption) | (with_reducible exact blk_new (by first | rfl | (simp; done))) | with_reducible apply Blk.alloc | with_reducible apply Blk.drew | with_reducible apply Blk.latr | (with_reducible refine Blk.far ?_ (by (simp; try omega)) _)))).later hl7)
  replace H2 := hid ((show Blk _ b2 27 (pc .zero) from by repeat (first | (with_reducible exact H2.out) | with_reducible apply Blk.alloc)).later hl7)
  have HL7 := hid (Later.trans (a := w) (by repeat (first | (with_reducible exact Later.refl _) | (with_reducible exact HL6.out) | with_reducible apply Later.latr | with_reducible apply Later.alloc | with_reducible apply Later.drew | (with_reducible refine Later.set ?_ (by (simp; try omega)) _))) hl7)
  have HW := hid (Later.trans (a := W6) (by repeat (first | (with_reducible exact Later.refl _) | with_reducible apply Later.latr | with_reducible apply Later.alloc | with_reducible apply Later.drew | (with_reducible refine Later.set ?_ (by (simp; try omega)) _))) hl7)
  replace HA4 := hid (HA4.out.later HW.out)
  replace HA6 := hid (HA6.out.later HW.out)
  clear hl7 HL6 HW HA2
  generalize W6.heap.size + 1 + 1 = b8 at *
  generalize W6.heap.size = b6 at *
  have ht8 := B8.out.there (o := 0) (n := 12) (by simp)
  have hc8 := B8.out.cells 0 12 (al redA) rfl rfl
  (simp only [])
  (repeat go_step)
  refine (same_eq v4 _ [redA, .of 1 65, .of 2 10, .of 1 66] _ (HA4.out.later (by repeat (first | (with_reducible exact Later.refl _) | with_reducible apply Later.latr | with_reducible apply Later.alloc | with_reducible apply Later.drew | (with_reducible refine Later.set ?_ (by (simp; try omega)) _)))) (arr_new (xs := als [redA, .of 1 65, .of 2 10, .of 1 66]) (n := 4) (size := 12) (by simp) rfl (by decide))).later.mono ?_
  rintro e W8 ⟨rfl, hl8⟩
  have HW8 := hid (Later.trans (a := W7) (by repeat (first | (with_reducible exact Later.refl _) | with_reducible apply Later.latr | with_reducible apply Later.alloc | with_reducible apply Later.drew | (with_reducible refine Later.set ?_ (by (simp; try omega)) _))) hl8)
  replace B6 := hid (B6.out.later HW8.out)
  replace B8 := hid (B8.out.later HW8.out)
  replace H2 := hid (H2.out.later HW8.out)
  replace HA6 := hid (HA6.out.later HW8.out)
  have HL8 := hid (HL7.out.trans HW8.out)
  clear hl8 HW8 HA4 ht8 hc8 HL7
  (simp only [])
  (repeat go_step)
  refine (same_eq v6 _ [.of 1 121, .of 3 77] _ (HA6.out.later (by repeat (first | (with_reducible exact Later.refl _) | with_reducible apply Later.latr | with_reducible apply Later.alloc | with_reducible apply Later.drew | (with_reducible refine Later.set ?_ (by (simp; try omega)) _)))) (arr_new (xs := als [.of 1 121, .of 3 77]) (n := 2) (size := 12) (by simp) rfl (by decide))).later.mono ?_
  rintro e W9 ⟨rfl, hl9⟩
  have HW9 := hid (Later.trans (a := W8) (by repeat (first | (with_reducible exact Later.refl _) | with_reducible apply Later.latr | with_reducible apply Later.alloc | with_reducible apply Later.drew | (with_reducible refine Later.set ?_ (by (simp; try omega)) _))) hl9)
  replace B6 := hid (B6.out.later HW9.out)
  replace B8 := hid (B8.out.later HW9.out)
  replace H2 := hid (H2.out.later HW9.out)
  have HL9 := hid (HL8.out.trans HW9.out)
  clear hl9 HW9 HA6 HL8
  have ht8 := B8.out.there (o := 0) (n := 12) (by simp)
  have hc8 := B8.out.cells 0 12 (al redA) rfl rfl
  have ht6 := B6.out.there (o := 0) (n := 13) (by simp)
  have hc6 := B6.out.cells 0 13 (pl (.at 2)) rfl rfl
  have ht2 := H2.out.there (o := 0) (n := 13) (by simp)
  have hc2 := H2.out.cells 0 13 (pl .zero) rfl rfl
  (simp only [])
  (repeat go_step)
  refine (par_1 _).later.mono ?_
  rintro e W10 ⟨rfl, hl10⟩
  replace B8 := hid (B8.out.later hl10)
  have HL10 := hid (HL9.out.trans hl10)
  clear hl10
  have hu1 := B8.out.there (o := 0) (n := 12) (by simp)
  have hd1 := B8.out.cells 0 12 (al redA) rfl rfl
  (simp only [])
  (repeat go_step)
  refine (par_2 _).later.mono ?_
  rintro e W11 ⟨rfl, hl11⟩
  replace B8 := hid (B8.out.later hl11)
  have HL11 := hid (HL10.out.trans hl11)
  clear hl11
  have hu2 := B8.out.there (o := 0) (n := 12) (by simp)
  have hd2 := B8.out.cells 0 12 (al redA) rfl rfl
  (simp only [])
  (repeat go_step)
  refine (par_8 _).later.mono ?_
  rintro e W12 ⟨rfl, hl12⟩
  replace B8 := hid (B8.out.later hl12)
  have HL12 := hid (HL11.out.trans hl12)
  clear hl12
  have hu8 := B8.out.there (o := 0) (n := 12) (by simp)
  have hd8 := B8.out.cells 0 12 (al redA) rfl rfl
  (simp only [])
  (repeat go_step)
  go_ret
  exact ⟨rfl, HL12.out⟩
end Go.Proofs.Ytjgaljnojhkimaa
