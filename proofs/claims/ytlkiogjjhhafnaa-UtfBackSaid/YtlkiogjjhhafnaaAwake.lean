/- Conversions of bytes to a string; the walk of the statements' head (awake): it answers true. No condition. -/
import Derived.Test.YtlkiogjjhhafnaaBytes
import Derived.Test.YtlkiogjjhhafnaaStepr
import Derived.Test.YtlkiogjjhhafnaaSame
import Derived.Laws.BytesArg
import Derived.Deep.RegionHeldLaw
import Derived.Deep.DrawnRows
namespace Go.Proofs.Ytlkiogjjhhafnaa
open Go.RowKit
attribute [local go_sem] ite_max ite_min
attribute [local go_sem ↓] Go.wp_at_zero Go.wp_at_succ
attribute [local go_sem] h_lt1 h_lt2 h_lt3 h_lt4 h_lt5 h_lt6 h_eq1 h_qe1 h_eq2 h_qe2 h_eq3 h_qe3 h_eq4 h_qe4 h_eq5 h_qe5 h_eq6 h_qe6

theorem conv_arr {w : World} {v : Value} {l : List Int} (h : Arr w 1 v l.length (l.map bv)) : (convert 29 9 v).run Try.prog w = .ok (.string (strOfNums l)) w := by
  obtain ⟨_, a, cap, rfl, _, _, hc⟩ := h
  cases l with
  | nil =>
    rw [run_convert_bytes_string w 29 9 5 _ _ _ Try.underlying29 Try.underlying5 Try.underlying9]
    cases a with
    | none => rw [← run_convert_bytes_string w 29 9 5 _ _ _ Try.underlying29 Try.underlying5 Try.underlying9]; exact run_convert_bytes_nil w 29 5 Try.underlying29 Try.underlying5 _ _ 9 Try.underlying9
    | some ad => exact run_bytesToString w ad 0 cap [] (by simp [loadCells, loadCellsFrom, Sem.run_pure])
  | cons x l =>
    obtain ⟨b, off, rfl, hb, hcell⟩ := hc (by simp)
    refine run_convert_bytes_arg w 29 5 Try.underlying29 Try.underlying5 b off _ cap (x :: l) rfl (fun i hi => ?_) 9 Try.underlying9
    refine hcell i _ ?_
    have hi' : i < (x :: l).length := hi
    rw [getElem?_map_of bv (x :: l) i hi', List.getD, List.getElem?_eq_getElem hi']
    rfl
theorem conv_own {w : World} {base : Nat} {v : Value} {l : List Int} (h : w.ownsRow base 5 1 v l.length (l.map bv)) : (convert 29 9 v).run Try.prog w = .ok (.string (strOfNums l)) w := conv_arr (.of_own h)

abbrev two2 : Obj := .cells #[.int .i64 8364, .int .i64 (-1)] 3
abbrev lit6 : Obj := .cells #[.int .u8 226, .int .u8 130, .int .u8 172, .int .u8 239, .int .u8 191, .int .u8 189] 5
theorem arr_lit (w : World) : Arr (w.alloc lit6) 1 (.slice (some ⟨w.heap.size, 0, none⟩) 6 6) ([226, 130, 172, 239, 191, 189] : List Int).length (([226, 130, 172, 239, 191, 189] : List Int).map bv) :=
  arr_new (xs := [bv 226, bv 130, bv 172, bv 239, bv 191, bv 189]) rfl rfl (by decide)
theorem arr_lit2 (w : World) : Arr ((w.alloc two2).alloc lit6) 1 (.slice (some ⟨w.heap.size + 1, 0, none⟩) 6 6) ([226, 130, 172, 239, 191, 189] : List Int).length (([226, 130, 172, 239, 191, 189] : List Int).map bv) :=
  arr_new (xs := [bv 226, bv 130, bv 172, bv 239, bv 191, bv 189]) (by simp) rfl (by decide)
theorem run_a (v : Value) (W : World) (h : Arr W 1 v 4 [bv 226, bv 130, bv 172, bv 65]) : Calls Try.prog 13 #[.agg #[.int .i64 0, .int .i64 0, .int .i64 0], v] W (MadeR W ([8364, 65], .zero)) :=
  runes13 .zero v [226, 130, 172, 65] W (by decide) (by decide) h
theorem run_b (v : Value) (W : World) (h : Arr W 1 v 2 [bv 226, bv 65]) : Calls Try.prog 13 #[.agg #[.int .i64 0, .int .i64 0, .int .i64 0], v] W (MadeR W ([65533, 65], .zero)) :=
  runes13 .zero v [226, 65] W (by decide) (by decide) h
theorem run_c (v : Value) (W : World) (h : Arr W 1 v 2 [bv 255, bv 240]) : Calls Try.prog 13 #[.agg #[.int .i64 0, .int .i64 0, .int .i64 0], v] W (MadeR W ([65533], ⟨3, 0, 65536⟩)) :=
  runes13 .zero v [255, 240] W (by decide) (by decide) h
theorem run_d (v : Value) (W : World) (h : Arr W 1 v 2 [iv 8364, iv (-1)]) : Calls Try.prog 11 #[v] W (MadeB W [226, 130, 172, 239, 191, 189]) :=
  bytes11 v [8364, -1] W (by decide) h
theorem same_true (v1 v2 : Value) (l : List Int) (w : World) (h1 : Arr w 1 v1 l.length (l.map iv)) (h2 : Arr w 1 v2 l.length (l.map iv)) : Gives Try.prog 10 #[v1, v2] w (.bool true) :=
  (same10 v1 v2 l l w h1 h2).cast (by simp)

set_option maxRecDepth 100000 in
set_option maxHeartbeats 16000000 in
theorem awake7 (w : World) : Gives Try.prog 7 #[] w (.bool true) := by
  apply gives_of
  (go_enter Try.func7, Try.ntmps7; go_wp2_with (fail))
  refine (run_a _ _ (arr_new (xs := [bv 226, bv 130, bv 172, bv 65]) (n := 4) (size := 1) (by simp) rfl (by decide))).mono ?_
  rintro e W1 ⟨v1, rfl, hl1, hO1⟩
  have HL1 := hid (Later.trans (a := w) (by repeat (first | (with_reducible exact Later.refl _) | with_reducible apply Later.latr | with_reducible apply Later.alloc | with_reducible apply Later.drew | (with_reducible refine Later.set ?_ (by (simp; try omega)) _))) hl1)
  have HA1 := hid (Arr.of_own hO1)
  clear hl1 hO1
  go_wp2_with (fail)
  refine (run_b _ _ (arr_new (xs := [bv 226, bv 65]) (n := 2) (size := 1) (by simp) rfl (by decide))).mono ?_
  rintro e W2 ⟨v2, rfl, hl2, hO2⟩
  have HL2 := hid (Later.trans (a := w) (by repeat (first | (with_reducible exact Later.refl _) | (with_reducible exact HL1.out) | with_reducible apply Later.latr | with_reducible apply Later.alloc | with_reducible apply Later.drew | (with_reducible refine Later.set ?_ (by (simp; try omega)) _))) hl2)
  have HB1 := hid ((((Blk.new W1 23 #[.int .i64 0, .int .i64 0, .int .i64 0]).alloc (.cells #[bv 226, bv 65] 5))).later hl2)
  replace HA1 := hid (((HA1.out.alloc (.cells #[.int .i64 0, .int .i64 0, .int .i64 0] 23)).alloc (.cells #[bv 226, bv 65] 5)).later hl2)
  have HA2 := hid (Arr.of_own hO2)
  clear hl2 hO2
  generalize W1.heap.size = b1 at *
  go_wp2_with (fail)
  refine (run_c _ _ (arr_new (xs := [bv 255, bv 240]) (n := 2) (size := 1) (by simp) rfl (by decide))).mono ?_
  rintro e W3 ⟨v3, rfl, hl3, hO3⟩
  have HL3 := hid (Later.trans (a := w) (by repeat (first | (with_reducible exact Later.refl _) | (with_reducible exact HL2.out) | with_reducible apply Later.latr | with_reducible apply Later.alloc | with_reducible apply Later.drew | (with_reducible refine Later.set ?_ (by (simp; try omega)) _))) hl3)
  replace HB1 := hid (((HB1.out.alloc (.cells #[.int .i64 0, .int .i64 0, .int .i64 0] 23)).alloc (.cells #[bv 255, bv 240] 5)).later hl3)
  replace HA1 := hid (((HA1.out.alloc (.cells #[.int .i64 0, .int .i64 0, .int .i64 0] 23)).alloc (.cells #[bv 255, bv 240] 5)).later hl3)
  replace HA2 := hid (((HA2.out.alloc (.cells #[.int .i64 0, .int .i64 0, .int .i64 0] 23)).alloc (.cells #[bv 255, bv 240] 5)).later hl3)
  have HA3 := hid (Arr.of_own hO3)
  clear hl3 hO3 HL1 HL2
  generalize W2.heap.size = b2 at *
  go_wp2_with (fail)
  obtain ⟨U, hU⟩ : ∃ U, U = W3.alloc (.cells #[.int .i64 3, .int .i64 0, .int .i64 65536] 23) := ⟨_, rfl⟩
  have HB3 : Hid (Blk U W3.heap.size 23 #[.int .i64 3, .int .i64 0, .int .i64 65536]) := hid (by rw [hU]; exact Blk.new W3 23 _)
  replace HB1 : Hid (Blk U b1 23 #[.int .i64 0, .int .i64 0, .int .i64 0]) := hid (by rw [hU]; exact HB1.out.alloc _)
  replace HA1 : Hid (Arr U 1 v1 ([8364, 65] : List Int).length (([8364, 65] : List Int).map iv)) := hid (by rw [hU]; exact HA1.out.alloc _)
  replace HA2 : Hid (Arr U 1 v2 ([65533, 65] : List Int).length (([65533, 65] : List Int).map iv)) := hid (by rw [hU]; exact HA2.out.alloc _)
  replace HA3 : Hid (Arr U 1 v3 ([65533] : List Int).length (([65533] : List Int).map iv)) := hid (by rw [hU]; exact HA3.out.alloc _)
  have HL : Hid (Later w U) := hid (by rw [hU]; exact by repeat (first | (with_reducible exact Later.refl _) | (with_reducible exact HL3.out) | with_reducible apply Later.latr | with_reducible apply Later.alloc | with_reducible apply Later.drew | (with_reducible refine Later.set ?_ (by (simp; try omega)) _)))
  simp only [Ut.zero]
  rw [← hU]
  clear hU HL3
  generalize W3.heap.size = b3 at *
  (obtain ⟨hca0, hca1, hca2, hfa0, hfa1, hfa2, hga⟩ := Blk.at3 (HB1.out))
  (obtain ⟨hcc0, hcc1, hcc2, hfc0, hfc1, hfc2, hgc⟩ := Blk.at3 (HB3.out))
  go_region_held_law (fun w' => w'.cell? ⟨b1, 0, none⟩ = some (.int .i64 0) ∧ w'.cell? ⟨b1, 1, none⟩ = some (.int .i64 0) ∧ w'.cell? ⟨b1, 2, none⟩ = some (.int .i64 0) ∧ w'.cell? ⟨b3, 0, none⟩ = some (.int .i64 3))
    (exact ⟨(Later.cell (w := U) (by repeat (first | (with_reducible exact Later.refl _) | (with_reducible assumption) | with_reducible apply Later.latr | with_reducible apply Later.alloc | with_reducible apply Later.drew | (with_reducible refine Later.set ?_ (by (simp; try omega)) _))) hga).trans hca0, (Later.cell (w := U) (by repeat (first | (with_reducible exact Later.refl _) | (with_reducible assumption) | with_reducible apply Later.latr | with_reducible apply Later.alloc | with_reducible apply Later.drew | (with_reducible refine Later.set ?_ (by (simp; try omega)) _))) hga).trans hca1, (Later.cell (w := U) (by repeat (first | (with_reducible exact Later.refl _) | (with_reducible assumption) | with_reducible apply Later.latr | with_reducible apply Later.alloc | with_reducible apply Later.drew | (with_reducible refine Later.set ?_ (by (simp; try omega)) _))) hga).trans hca2, (Later.cell (w := U) (by repeat (first | (with_reducible exact Later.refl _) | (with_reducible assumption) | with_reducible apply Later.latr | with_reducible apply Later.alloc | with_reducible apply Later.drew | (with_reducible refine Later.set ?_ (by (simp; try omega)) _))) hgc).trans hcc0⟩)
    (first
    | (go_at_call 10; (with_reducible show Calls _ _ #[v1, _] _ _); refine (same_true v1 _ [8364, 65] _ ?_ ?_).mono ?_; (focus ((repeat (first | (with_reducible exact HA1.out) | with_reducible apply Arr.latr | (with_reducible refine Arr.alloc ?_ _) | (with_reducible refine Arr.drew ?_))); done)); (focus (exact arr_new (by first | rfl | simp [size_latr]) (by rfl) (by decide))); rintro e w1 ⟨rfl, x1, rfl⟩)
    | (go_at_call 10; (with_reducible show Calls _ _ #[v2, _] _ _); refine (same_true v2 _ [65533, 65] _ ?_ ?_).mono ?_; (focus ((repeat (first | (with_reducible exact HA2.out) | with_reducible apply Arr.latr | (with_reducible refine Arr.alloc ?_ _) | (with_reducible refine Arr.drew ?_))); done)); (focus (exact arr_new (by first | rfl | simp [size_latr]) (by rfl) (by decide))); rintro e w1 ⟨rfl, x1, rfl⟩)
    | (go_at_call 10; (with_reducible show Calls _ _ #[v3, _] _ _); refine (same_true v3 _ [65533] _ ?_ ?_).later.mono ?_; (focus ((repeat (first | (with_reducible exact HA3.out) | with_reducible apply Arr.latr | (with_reducible refine Arr.alloc ?_ _) | (with_reducible refine Arr.drew ?_))); done)); (focus (exact arr_new (by first | rfl | simp [size_latr]) (by rfl) (by decide))); rintro e B ⟨rfl, hlB⟩; have hlBU : Later U B := Later.trans (a := U) (by repeat (first | (with_reducible exact Later.refl _) | with_reducible apply Later.latr | with_reducible apply Later.alloc | with_reducible apply Later.drew | (with_reducible refine Later.set ?_ (by (simp; try omega)) _))) hlB; have k1 := conv_arr (arr_lit B); have k2 := conv_arr ((arr_lit B).alloc two2); have k3 := conv_arr (arr_lit2 B))
    | (go_at_call 11; refine (run_d _ _ ?_).mono ?_; (focus (first | exact arr_new (by first | rfl | simp) (by rfl) (by decide) | exact (arr_new (by first | rfl | simp) (by rfl) (by decide)).alloc _)); rintro e W4 ⟨v4, rfl, hl4, hO4⟩; have hl4U : Later U W4 := Later.trans (a := U) (by repeat (first | (with_reducible exact Later.refl _) | (with_reducible assumption) | with_reducible apply Later.latr | with_reducible apply Later.alloc | with_reducible apply Later.drew | (with_reducible refine Later.set ?_ (by (simp; try omega)) _))) hl4; have hc4 := conv_own hO4; have hc5 := conv_arr ((Arr.of_own hO4).alloc lit6); have k4 := conv_arr (arr_lit W4); (first | have k5 := conv_arr (((arr_lit B).alloc two2).later hl4) | have k5 := conv_arr ((arr_lit2 B).later hl4) | skip)))
  all_goals
    go_wp2_with (fail)
    go_ret
    exact ⟨rfl, Later.trans (a := w) HL.out (by repeat (first | (with_reducible exact Later.refl _) | (with_reducible assumption) | with_reducible apply Later.latr | with_reducible apply Later.alloc | with_reducible apply Later.drew | (with_reducible refine Later.set ?_ (by (simp; try omega)) _)))⟩
end Go.Proofs.Ytlkiogjjhhafnaa
