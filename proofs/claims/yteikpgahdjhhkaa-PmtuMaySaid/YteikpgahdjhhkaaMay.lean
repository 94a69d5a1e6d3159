/- PmtuMay: its walk, which answers true. Of events whose packets read as lists. -/
import Derived.Test.YteikpgahdjhhkaaAwake
import Derived.Test.YteikpgahdjhhkaaMayLaw
import Derived.Test.YteikpgahdjhhkaaOpen
namespace Go.Proofs.Yteikpgahdjhhkaa
open Go.RowKit
attribute [local go_sem] ite_max ite_min
attribute [local go_sem] h_lt1 h_lt2 h_lt3 h_lt4 h_lt5 h_lt6 h_eq1 h_qe1 h_eq2 h_qe2 h_eq3 h_qe3 h_eq4 h_qe4 h_eq5 h_qe5 h_eq6 h_qe6

structure Ev where
  ak : Bool
  gn : Bool
  v : Value
  l : List Snt
def ec (e : Ev) : List Value := [.bool e.ak, .bool e.gn, e.v]
def evs (l : List Ev) : List Value := l.flatMap ec
def goE : List Ev → Pt → Pt
  | [], q => q
  | e :: l, q => goE l (go1 e.ak e.gn e.l q)
theorem goE_snoc (l : List Ev) (e : Ev) : ∀ q, goE (l ++ [e]) q = go1 e.ak e.gn e.l (goE l q) := by
  induction l with
  | nil => intro q; rfl
  | cons a l ih => intro q; exact ih _
theorem goE_ok (l : List Ev) : ∀ {q : Pt}, Ok q → Ok (goE l q) := by
  induction l with
  | nil => intro q h; exact h
  | cons e l ih => intro q h; exact ih (go1_ok h)
theorem goE_take (l : List Ev) (q : Pt) (k : Nat) (h : k < l.length) : goE (l.take (k + 1)) q = go1 l[k].ak l[k].gn l[k].l (goE (l.take k) q) := by rw [take_succ_ l k h, goE_snoc]
theorem pr_take (z a : Int) (l : List Snt) (k : Nat) (h : k < l.length) : pr z a (l.take (k + 1)) = (pr z a (l.take k) || (l[k].p && (decide (l[k].z = z) && decide (z = a)))) := by rw [take_succ_ l k h, pr_snoc]
def EvAt (w : World) (b off k : Nat) (e : Ev) : Prop := ∀ X, Later w X → X.cell? ⟨b, off + k * 3, none⟩ = some (.bool e.ak) ∧ X.cell? ⟨b, off + k * 3 + 1, none⟩ = some (.bool e.gn) ∧ X.cell? ⟨b, off + k * 3 + 2, none⟩ = some e.v ∧ b < X.heap.size
theorem ev_at {w : World} {b off k : Nat} {l : List Ev} (hb : b < w.heap.size) (hc : ∀ j u, (evs l)[j]? = some u → w.cell? ⟨b, off + j, none⟩ = some u) (h : k < l.length) : EvAt w b off k l[k] := by
  have := (flatMap_at ec 3 (fun _ => rfl) l).2 k
  have a0 := this 0 h (by omega)
  have a1 := this 1 h (by omega)
  have a2 := this 2 h (by omega)
  exact fun X hX => ⟨(hX.cell hb).trans (hc _ _ a0), (hX.cell hb).trans (hc _ _ a1), (hX.cell hb).trans (hc _ _ a2), Nat.lt_of_lt_of_le hb hX.size⟩
def OkE (w : World) (e : Ev) : Prop := Arr w 5 e.v e.l.length (snts e.l)

section
open Go.ChangeShapes Go.WideShapes Go.ChangeAt Go.Deep
variable {H : Type} {enc : TypeId × Value → H} {w : World} {base : Nat} {spare : Nat → Bool} {held : Bool}
theorem ev_of_cells (n : Nat) (cs : List Value) (y : DataW H × List MemPlace) (h : DataW.trod enc Try.prog w base spare held n 38 cs = some y) : ∃ e : Ev, OkE w e ∧ cs = ec e := by
  obtain ⟨hl, hf⟩ := fields_of Try.underlying38 (by kernel_rfl) (by kernel_rfl) h
  match cs, hl with
  | [c0, c1, c3], _ =>
    obtain ⟨_, _, h0⟩ := hf 0 _ c0 rfl rfl
    obtain ⟨_, _, h1⟩ := hf 1 _ c1 rfl rfl
    obtain ⟨_, _, h3⟩ := hf 2 _ c3 rfl rfl
    obtain ⟨a0, e0, _⟩ := DataW.trod_bool Try.underlying4 h0
    obtain ⟨a1, e1, _⟩ := DataW.trod_bool Try.underlying4 h1
    simp at e0 e1
    have hs : ∃ (x : Option Addr) (len cap : Nat), c3 = .slice x len cap := by
      rcases open_slice Try.underlying24 h3 with ⟨hcs, _⟩ | ⟨a, l, c, m, n, D, Pl, hcs, _⟩
      · exact ⟨_, _, _, by simpa using hcs⟩
      · exact ⟨_, _, _, by simpa using hcs⟩
    obtain ⟨x, len, cap, rfl⟩ := hs
    obtain ⟨l, _, hA, rfl⟩ := snts_of h3
    exact ⟨⟨a0, a1, .slice x l.length cap, l⟩, hA, by rw [e0, e1]; rfl⟩
theorem evs_of {fuel len cap : Nat} {x : Option Addr} {y : DataW H × List MemPlace} (h : DataW.trod enc Try.prog w base spare held fuel 35 [.slice x len cap] = some y) :
    ∃ l : List Ev, (∀ a ∈ l, OkE w a) ∧ Arr w 3 (.slice x len cap) l.length (l.flatMap ec) ∧ len = l.length :=
  arr_of_slice (OkE w) ec 3 (fun _ => rfl) (by decide) (by kernel_rfl) Try.underlying35 h ev_of_cells
end

set_option maxHeartbeats 32000000 in
set_option maxRecDepth 100000 in
theorem may5 (v : Value) (l : List Ev) (w : World) (hv : Arr w 3 v l.length (evs l)) (hE : ∀ e ∈ l, OkE w e) : Calls Try.prog 5 #[v] w fun e w' => e = .returned (.bool true) ∧ Later w w' := by
  have HEE := hid hE
  clear hE
  have hst : ∀ W, Gives Try.prog 21 #[] W (.agg #[.int .i64 256, .int .i64 1500, .int .i64 0, .int .i64 0, .int .i64 0]) := start21
  have H21 := hid hst
  clear hst
  rcases arr_cases hv with ⟨a, cap, rfl, h0, _, hmax⟩ | ⟨b, off, cap, rfl, hpos, hlen, hb, hcap, hmax, hcell⟩
  · obtain rfl : l = [] := List.eq_nil_of_length_eq_zero h0
    clear hv
    (go_enter Try.func5, Try.ntmps5; go_wp2_with (fail))
    (refine (awake8 _).mono ?_; rintro e w1 ⟨rfl, x1, rfl⟩; go_wp2_with (fail))
    (refine (H21.out _).mono ?_; rintro e w1 ⟨rfl, x1, rfl⟩; go_wp2_with (fail))
    go_rounds 1
    go_ret
    exact ⟨rfl, by repeat (first | (with_reducible exact Later.refl _) | with_reducible apply Later.latr | with_reducible apply Later.alloc | with_reducible apply Later.drew | (with_reducible refine Later.set ?_ (by (simp; try omega)) _))⟩
  have HC := hid hcell
  clear hcell hv
  (go_enter Try.func5, Try.ntmps5; go_wp2_with (fail))
  (refine (awake8 _).mono ?_; rintro e w1 ⟨rfl, x1, rfl⟩; go_wp2_with (fail))
  refine (H21.out _).later.mono ?_
  rintro e w1 ⟨rfl, hl1⟩
  have HW := hid (Later.trans (a := w) (by repeat (first | (with_reducible exact Later.refl _) | with_reducible apply Later.latr | with_reducible apply Later.alloc | with_reducible apply Later.drew | (with_reducible refine Later.set ?_ (by (simp; try omega)) _))) hl1)
  clear hl1
  have hwp : w.heap.size ≤ w1.heap.size := HW.out.size
  go_wp2_with (fail)
  have HS0 : Hid (Blk (w1.alloc (.cells #[.int .i64 256, .int .i64 1500, .int .i64 0, .int .i64 0, .int .i64 0] 23)) w1.heap.size 23 (pc start)) := hid (Blk.new _ _ _)
  have HW1 := hid (HW.out.alloc (.cells #[.int .i64 256, .int .i64 1500, .int .i64 0, .int .i64 0, .int .i64 0] 23))
  generalize w1.heap.size = p at *
  go_loopw [5] (fun i wr => ∃ k : Nat, k ≤ l.length ∧ k ≤ 50 ∧ i = .int .i64 k ∧ Later w wr ∧ Blk wr p 23 (pc (goE (l.take k) start))) (fun i _ => l.length - (intOf i).toNat)
  case atStart => exact ⟨0, Nat.zero_le _, by omega, rfl, HW1.out, HS0.out⟩
  case round =>
    obtain ⟨k, hk, hk50, rfl, hl, hB⟩ := hrel
    by_cases hstop : k < l.length ∧ k < 50
    rotate_left
    · have HL := hid hl
      clear hl hB
      by_cases hlt : k < l.length
      · have h50 : ¬ k < 50 := fun h => hstop ⟨hlt, h⟩
        clear hstop
        go_wp2_with (fail)
        go_ret
        exact ⟨rfl, by repeat (first | (with_reducible exact Later.refl _) | (with_reducible exact HL.out) | with_reducible apply Later.latr | with_reducible apply Later.alloc | with_reducible apply Later.drew | (with_reducible refine Later.set ?_ (by (simp; try omega)) _))⟩
      · clear hstop
        go_wp2_with (fail)
        go_ret
        exact ⟨rfl, by repeat (first | (with_reducible exact Later.refl _) | (with_reducible exact HL.out) | with_reducible apply Later.latr | with_reducible apply Later.alloc | with_reducible apply Later.drew | (with_reducible refine Later.set ?_ (by (simp; try omega)) _))⟩
    obtain ⟨hlt, h50⟩ := hstop
    have hgo := goE_take l start k hlt
    have hok := goE_ok (l.take k) ok_start
    have hev := ev_at hb HC.out hlt
    have hoe := HEE.out l[k] (List.getElem_mem hlt)
    generalize goE (l.take k) start = R at *
    generalize l[k] = e at *
    have HE := hid hev
    have HAr := hid hoe
    have hqp : wr.heap.size ≠ p := by have := hB.lt; omega
    (obtain ⟨hca0, hca1, hca2, hca3, hca4, hfa0, hfa1, hfa2, hfa3, hfa4, hga⟩ := Blk.at5 (hB))
    obtain ⟨c0, c1, c3, cb⟩ := HE.out _ hl
    have hel := HAr.out.later hl
    have HECELL0 := HAr.out
    have HL := hid hl
    have HB := hid hB
    have HOK := hid hok
    clear hl hB hok hev hoe
    obtain ⟨eak, egn, ev, el⟩ := e
    dsimp only at *
    obtain ⟨helen, ea, ecap, rfl, hec1, hec2, _⟩ := hel
    unfold maxLen at hec2
    obtain ⟨_, ea', ecap', heq, _, _, hecell⟩ := HECELL0
    injection heq with q1 q2 q3
    subst q1 q3
    have HECELL := hid hecell
    clear hecell helen
    by_cases hm50 : el.length ≤ 20
    rotate_left
    · have hd : decide (20 < (el.length : Int)) = true := decide_eq_true (by omega)
      go_wp2_with (fail)
      go_ret
      exact ⟨rfl, by repeat (first | (with_reducible exact Later.refl _) | (with_reducible exact HL.out) | with_reducible apply Later.latr | with_reducible apply Later.alloc | with_reducible apply Later.drew | (with_reducible refine Later.set ?_ (by (simp; try omega)) _))⟩
    have hd : decide (20 < (el.length : Int)) = false := decide_eq_false (by omega)
    have hokT := go1_ok (ak := eak) (gn := egn) (l := el) HOK.out
    cases eak
    · cases egn
      · have h15 := fun W (h : Arr W 5 (.slice ea el.length ecap) el.length (snts el)) => came15 R (.slice ea el.length ecap) el W h
        rw [of_ok HOK.out] at h15
        have hg : go1 false false el R = cames el R := rfl
        rw [hg] at hgo hokT
        have hlaw := came_law HOK.out el
        have h9 := check9 (cames el R)
        rw [(chk_iff _).2 hokT] at h9
        generalize cames el R = T at *
        have HGO := hid hgo
        have H15 := hid h15
        have H9 := hid h9
        clear hgo h15 h9 hg hokT
        rcases hlaw with hz | ⟨_, hz1, hz2, hpr⟩
        · have d1 : decide (R.z < T.z) = false := decide_eq_false (by omega)
          have d2 : decide (T.z < R.z) = false := decide_eq_false (by omega)
          clear hz
          as_aux_lemma =>
            go_wp2_with (fail)
            refine wp_region_calm_tail 7 (by kernel_rfl) (by kernel_rfl) ?_
            simp only [List.take_succ_cons, List.take_zero, List.drop_succ_cons, List.drop_zero]
            (repeat (go_big_quiet_step (fail)))
            go_big_quiet_step ((go_at_call 15; exact calm_of (H15.out _ (HAr.out.later (HL.out.trans (((Later.refl _).alloc _).trans (latr_later _ _)))))))
            (repeat (go_big_quiet_step (fail)))
            refine wpQuiet_nil ?_
            rintro W2 hW2
            replace hW2 := later_of hW2
            have HQ2 := hid ((Blk.new wr 23 #[.int .i64 R.z, .int .i64 R.h, .int .i64 R.a, .int .i64 R.f, .int .i64 R.b]).later hW2)
            have HP2 := hid ((HB.out.alloc (.cells #[.int .i64 R.z, .int .i64 R.h, .int .i64 R.a, .int .i64 R.f, .int .i64 R.b] 23)).later hW2)
            have HL2 := hid ((HL.out.alloc (.cells #[.int .i64 R.z, .int .i64 R.h, .int .i64 R.a, .int .i64 R.f, .int .i64 R.b] 23)).trans hW2)
            clear hW2
            (obtain ⟨hcp20, hcp21, hcp22, hcp23, hcp24, hfp20, hfp21, hfp22, hfp23, hfp24, hgp2⟩ := Blk.at5 (HP2.out))
            go_wp2_with (fail)
            obtain ⟨V, hV⟩ : ∃ V, V = (((((W2.setCell ⟨p, 0, none⟩ (.int .i64 T.z)).setCell ⟨p, 1, none⟩ (.int .i64 T.h)).setCell ⟨p, 2, none⟩ (.int .i64 T.a)).setCell ⟨p, 3, none⟩ (.int .i64 T.f)).setCell ⟨p, 4, none⟩ (.int .i64 T.b)) := ⟨_, rfl⟩
            have HP3 : Hid (Blk V p 23 (pc T)) := hid (by rw [hV]; exact (((((HP2.out.set_ 0 (.int .i64 T.z)).set_ 1 (.int .i64 T.h)).set_ 2 (.int .i64 T.a)).set_ 3 (.int .i64 T.f)).set_ 4 (.int .i64 T.b)))
            have HQ3 : Hid (Blk V wr.heap.size 23 (pc R)) := hid (by rw [hV]; exact (((((HQ2.out.far (p := ⟨p, 0, none⟩) (hqp) (.int .i64 T.z)).far (p := ⟨p, 1, none⟩) (hqp) (.int .i64 T.h)).far (p := ⟨p, 2, none⟩) (hqp) (.int .i64 T.a)).far (p := ⟨p, 3, none⟩) (hqp) (.int .i64 T.f)).far (p := ⟨p, 4, none⟩) (hqp) (.int .i64 T.b)))
            have HL3 : Hid (Later w V) := hid (by rw [hV]; exact (((((HL2.out.set (p := ⟨p, 0, none⟩) (hwp) (.int .i64 T.z)).set (p := ⟨p, 1, none⟩) (hwp) (.int .i64 T.h)).set (p := ⟨p, 2, none⟩) (hwp) (.int .i64 T.a)).set (p := ⟨p, 3, none⟩) (hwp) (.int .i64 T.f)).set (p := ⟨p, 4, none⟩) (hwp) (.int .i64 T.b)))
            rw [← hV]
            clear hV
            have hqz := HQ3.out.lt
            generalize wr.heap.size = wq at *
            go_loopw [7, 8] (fun pp jj wi => ∃ j : Nat, j ≤ el.length ∧ jj = .int .i64 j ∧ pp = .bool (pr T.z R.a (el.take j)) ∧ Later V wi) (fun _ jj _ => el.length - (intOf jj).toNat)
            case atStart => exact ⟨0, Nat.zero_le _, rfl, rfl, Later.refl _⟩
            case round =>
              obtain ⟨j, hj, rfl, rfl, hli⟩ := hrel
              have hPi : Blk wr p 23 (pc T) := HP3.out.later hli
              have hQi : Blk wr wq 23 (pc R) := HQ3.out.later hli
              obtain ⟨f0, f1, f2, fb⟩ := HE.out _ (HL3.out.trans hli)
              dsimp only at f0 f1 f2
              by_cases hjl : j < el.length
              · obtain ⟨b2, off2, rfl, hb2, hc2⟩ := HECELL.out (by omega)
                have hb2i : b2 < wr.heap.size := Nat.lt_of_lt_of_le hb2 (HL3.out.trans hli).size
                have hst := (flatMap_at sc 5 (fun _ => rfl) el).2 j
                have g2 : wr.cell? ⟨b2, off2 + j * 5 + 2, none⟩ = some (.int .i64 el[j].z) := ((HL3.out.trans hli).cell hb2).trans (hc2 _ _ (hst 2 hjl (by omega)))
                have g4 : wr.cell? ⟨b2, off2 + j * 5 + 4, none⟩ = some (.bool el[j].p) := ((HL3.out.trans hli).cell hb2).trans (hc2 _ _ (hst 4 hjl (by omega)))
                clear hst hc2
                have hpt := pr_take T.z R.a el j hjl
                generalize pr T.z R.a (el.take j) = pb at *
                generalize el[j].z = sz at *
                generalize el[j].p = sp at *
                have HPT := hid hpt
                have HLi := hid hli
                (obtain ⟨hcpi0, hcpi1, hcpi2, hcpi3, hcpi4, hfpi0, hfpi1, hfpi2, hfpi3, hfpi4, hgpi⟩ := Blk.at5 (hPi))
                (obtain ⟨hcqi0, hcqi1, hcqi2, hcqi3, hcqi4, hfqi0, hfqi1, hfqi2, hfqi3, hfqi4, hgqi⟩ := Blk.at5 (hQi))
                clear hpt hli hPi hQi
                cases pb
                · cases sp
                  · go_wp2_with (fail)
                    (refine wp_region_calm (by kernel_rfl) (by kernel_rfl) ?_; (repeat (go_big_quiet_step ((fail)))); refine wpQuiet_nil ?_; rintro _ ⟨x, rfl⟩; go_wp2_with (fail))
                    go_roundw
                    case rel => exact ⟨j + 1, by omega, by go_num, by rw [HPT.out]; rfl, HLi.out.latr _⟩
                    case measure => simp [intOf]; omega
                  · by_cases hx : sz = T.z
                    · have x1 : (sz == T.z) = true := by simpa using hx
                      have x2 : decide (sz = T.z) = true := decide_eq_true hx
                      by_cases hy : T.z = R.a
                      · have y1 : (T.z == R.a) = true := by simpa using hy
                        have y2 : decide (T.z = R.a) = true := decide_eq_true hy
                        have hres : (false || (true && (decide (sz = T.z) && decide (T.z = R.a)))) = true := by rw [x2, y2]; rfl
                        have HRES := hid (HPT.out.trans hres)
                        clear hx hy hres
                        go_wp2_with (fail)
                        (refine wp_region_calm (by kernel_rfl) (by kernel_rfl) ?_; (repeat (go_big_quiet_step ((fail)))); refine wpQuiet_nil ?_; rintro _ ⟨x, rfl⟩; go_wp2_with (fail))
                        go_roundw
                        case rel => exact ⟨j + 1, by omega, by go_num, by rw [HRES.out], HLi.out.latr _⟩
                        case measure => simp [intOf]; omega
                      · have y1 : (T.z == R.a) = false := by simpa using hy
                        have y2 : decide (T.z = R.a) = false := decide_eq_false hy
                        have hres : (false || (true && (decide (sz = T.z) && decide (T.z = R.a)))) = false := by rw [x2, y2]; rfl
                        have HRES := hid (HPT.out.trans hres)
                        clear hx hy hres
                        go_wp2_with (fail)
                        (refine wp_region_calm (by kernel_rfl) (by kernel_rfl) ?_; (repeat (go_big_quiet_step ((fail)))); refine wpQuiet_nil ?_; rintro _ ⟨x, rfl⟩; go_wp2_with (fail))
                        go_roundw
                        case rel => exact ⟨j + 1, by omega, by go_num, by rw [HRES.out], HLi.out.latr _⟩
                        case measure => simp [intOf]; omega
                    · have x1 : (sz == T.z) = false := by simpa using hx
                      have x2 : decide (sz = T.z) = false := decide_eq_false hx
                      have hres : (false || (true && (decide (sz = T.z) && decide (T.z = R.a)))) = false := by rw [x2]; rfl
                      have HRES := hid (HPT.out.trans hres)
                      clear hx hres
                      go_wp2_with (fail)
                      (refine wp_region_calm (by kernel_rfl) (by kernel_rfl) ?_; (repeat (go_big_quiet_step ((fail)))); refine wpQuiet_nil ?_; rintro _ ⟨x, rfl⟩; go_wp2_with (fail))
                      go_roundw
                      case rel => exact ⟨j + 1, by omega, by go_num, by rw [HRES.out], HLi.out.latr _⟩
                      case measure => simp [intOf]; omega
                · go_wp2_with (fail)
                  (refine wp_region_calm (by kernel_rfl) (by kernel_rfl) ?_; (repeat (go_big_quiet_step ((fail)))); refine wpQuiet_nil ?_; rintro _ ⟨x, rfl⟩; go_wp2_with (fail))
                  go_roundw
                  case rel => exact ⟨j + 1, by omega, by go_num, by rw [HPT.out]; rfl, HLi.out.latr _⟩
                  case measure => simp [intOf]; omega
              · obtain rfl : j = el.length := by omega
                have HLw := hid (HL3.out.trans hli)
                generalize pr T.z R.a (el.take el.length) = pb at *
                (obtain ⟨hcpi0, hcpi1, hcpi2, hcpi3, hcpi4, hfpi0, hfpi1, hfpi2, hfpi3, hfpi4, hgpi⟩ := Blk.at5 (hPi))
                (obtain ⟨hcqi0, hcqi1, hcqi2, hcqi3, hcqi4, hfqi0, hfqi1, hfqi2, hfqi3, hfqi4, hgqi⟩ := Blk.at5 (hQi))
                have HPi := hid hPi
                clear hPi hQi hli
                go_wp2_with (fail)
                refine wp_region_calm (by kernel_rfl) (by kernel_rfl) ?_
                (repeat (go_big_quiet_step (fail)))
                go_big_quiet_step ((go_at_call 9; exact calm_of (H9.out _)))
                (repeat (go_big_quiet_step (fail)))
                skip
                refine wpQuiet_nil ?_
                rintro _ ⟨x, rfl⟩
                go_wp2_with (fail)
                go_roundw
                case rel => exact ⟨k + 1, by omega, by omega, by go_num, HLw.out.latr _, by rw [HGO.out]; exact HPi.out.latr _⟩
                case measure => simp [intOf]; omega
        · have d1 : decide (R.z < T.z) = true := decide_eq_true (by omega)
          have d2 : decide (T.z < R.z) = false := decide_eq_false (by omega)
          clear hz1 hz2
          have HPRF := hid hpr
          clear hpr
          as_aux_lemma =>
            go_wp2_with (fail)
            refine wp_region_calm_tail 7 (by kernel_rfl) (by kernel_rfl) ?_
            simp only [List.take_succ_cons, List.take_zero, List.drop_succ_cons, List.drop_zero]
            (repeat (go_big_quiet_step (fail)))
            go_big_quiet_step ((go_at_call 15; exact calm_of (H15.out _ (HAr.out.later (HL.out.trans (((Later.refl _).alloc _).trans (latr_later _ _)))))))
            (repeat (go_big_quiet_step (fail)))
            refine wpQuiet_nil ?_
            rintro W2 hW2
            replace hW2 := later_of hW2
            have HQ2 := hid ((Blk.new wr 23 #[.int .i64 R.z, .int .i64 R.h, .int .i64 R.a, .int .i64 R.f, .int .i64 R.b]).later hW2)
            have HP2 := hid ((HB.out.alloc (.cells #[.int .i64 R.z, .int .i64 R.h, .int .i64 R.a, .int .i64 R.f, .int .i64 R.b] 23)).later hW2)
            have HL2 := hid ((HL.out.alloc (.cells #[.int .i64 R.z, .int .i64 R.h, .int .i64 R.a, .int .i64 R.f, .int .i64 R.b] 23)).trans hW2)
            clear hW2
            (obtain ⟨hcp20, hcp21, hcp22, hcp23, hcp24, hfp20, hfp21, hfp22, hfp23, hfp24, hgp2⟩ := Blk.at5 (HP2.out))
            go_wp2_with (fail)
            obtain ⟨V, hV⟩ : ∃ V, V = (((((W2.setCell ⟨p, 0, none⟩ (.int .i64 T.z)).setCell ⟨p, 1, none⟩ (.int .i64 T.h)).setCell ⟨p, 2, none⟩ (.int .i64 T.a)).setCell ⟨p, 3, none⟩ (.int .i64 T.f)).setCell ⟨p, 4, none⟩ (.int .i64 T.b)) := ⟨_, rfl⟩
            have HP3 : Hid (Blk V p 23 (pc T)) := hid (by rw [hV]; exact (((((HP2.out.set_ 0 (.int .i64 T.z)).set_ 1 (.int .i64 T.h)).set_ 2 (.int .i64 T.a)).set_ 3 (.int .i64 T.f)).set_ 4 (.int .i64 T.b)))
            have HQ3 : Hid (Blk V wr.heap.size 23 (pc R)) := hid (by rw [hV]; exact (((((HQ2.out.far (p := ⟨p, 0, none⟩) (hqp) (.int .i64 T.z)).far (p := ⟨p, 1, none⟩) (hqp) (.int .i64 T.h)).far (p := ⟨p, 2, none⟩) (hqp) (.int .i64 T.a)).far (p := ⟨p, 3, none⟩) (hqp) (.int .i64 T.f)).far (p := ⟨p, 4, none⟩) (hqp) (.int .i64 T.b)))
            have HL3 : Hid (Later w V) := hid (by rw [hV]; exact (((((HL2.out.set (p := ⟨p, 0, none⟩) (hwp) (.int .i64 T.z)).set (p := ⟨p, 1, none⟩) (hwp) (.int .i64 T.h)).set (p := ⟨p, 2, none⟩) (hwp) (.int .i64 T.a)).set (p := ⟨p, 3, none⟩) (hwp) (.int .i64 T.f)).set (p := ⟨p, 4, none⟩) (hwp) (.int .i64 T.b)))
            rw [← hV]
            clear hV
            have hqz := HQ3.out.lt
            generalize wr.heap.size = wq at *
            go_loopw [7, 8] (fun pp jj wi => ∃ j : Nat, j ≤ el.length ∧ jj = .int .i64 j ∧ pp = .bool (pr T.z R.a (el.take j)) ∧ Later V wi) (fun _ jj _ => el.length - (intOf jj).toNat)
            case atStart => exact ⟨0, Nat.zero_le _, rfl, rfl, Later.refl _⟩
            case round =>
              obtain ⟨j, hj, rfl, rfl, hli⟩ := hrel
              have hPi : Blk wr p 23 (pc T) := HP3.out.later hli
              have hQi : Blk wr wq 23 (pc R) := HQ3.out.later hli
              obtain ⟨f0, f1, f2, fb⟩ := HE.out _ (HL3.out.trans hli)
              dsimp only at f0 f1 f2
              by_cases hjl : j < el.length
              · obtain ⟨b2, off2, rfl, hb2, hc2⟩ := HECELL.out (by omega)
                have hb2i : b2 < wr.heap.size := Nat.lt_of_lt_of_le hb2 (HL3.out.trans hli).size
                have hst := (flatMap_at sc 5 (fun _ => rfl) el).2 j
                have g2 : wr.cell? ⟨b2, off2 + j * 5 + 2, none⟩ = some (.int .i64 el[j].z) := ((HL3.out.trans hli).cell hb2).trans (hc2 _ _ (hst 2 hjl (by omega)))
                have g4 : wr.cell? ⟨b2, off2 + j * 5 + 4, none⟩ = some (.bool el[j].p) := ((HL3.out.trans hli).cell hb2).trans (hc2 _ _ (hst 4 hjl (by omega)))
                clear hst hc2
                have hpt := pr_take T.z R.a el j hjl
                generalize pr T.z R.a (el.take j) = pb at *
                generalize el[j].z = sz at *
                generalize el[j].p = sp at *
                have HPT := hid hpt
                have HLi := hid hli
                (obtain ⟨hcpi0, hcpi1, hcpi2, hcpi3, hcpi4, hfpi0, hfpi1, hfpi2, hfpi3, hfpi4, hgpi⟩ := Blk.at5 (hPi))
                (obtain ⟨hcqi0, hcqi1, hcqi2, hcqi3, hcqi4, hfqi0, hfqi1, hfqi2, hfqi3, hfqi4, hgqi⟩ := Blk.at5 (hQi))
                clear hpt hli hPi hQi
                cases pb
                · cases sp
                  · go_wp2_with (fail)
                    (refine wp_region_calm (by kernel_rfl) (by kernel_rfl) ?_; (repeat (go_big_quiet_step ((fail)))); refine wpQuiet_nil ?_; rintro _ ⟨x, rfl⟩; go_wp2_with (fail))
                    go_roundw
                    case rel => exact ⟨j + 1, by omega, by go_num, by rw [HPT.out]; rfl, HLi.out.latr _⟩
                    case measure => simp [intOf]; omega
                  · by_cases hx : sz = T.z
                    · have x1 : (sz == T.z) = true := by simpa using hx
                      have x2 : decide (sz = T.z) = true := decide_eq_true hx
                      by_cases hy : T.z = R.a
                      · have y1 : (T.z == R.a) = true := by simpa using hy
                        have y2 : decide (T.z = R.a) = true := decide_eq_true hy
                        have hres : (false || (true && (decide (sz = T.z) && decide (T.z = R.a)))) = true := by rw [x2, y2]; rfl
                        have HRES := hid (HPT.out.trans hres)
                        clear hx hy hres
                        go_wp2_with (fail)
                        (refine wp_region_calm (by kernel_rfl) (by kernel_rfl) ?_; (repeat (go_big_quiet_step ((fail)))); refine wpQuiet_nil ?_; rintro _ ⟨x, rfl⟩; go_wp2_with (fail))
                        go_roundw
                        case rel => exact ⟨j + 1, by omega, by go_num, by rw [HRES.out], HLi.out.latr _⟩
                        case measure => simp [intOf]; omega
                      · have y1 : (T.z == R.a) = false := by simpa using hy
                        have y2 : decide (T.z = R.a) = false := decide_eq_false hy
                        have hres : (false || (true && (decide (sz = T.z) && decide (T.z = R.a)))) = false := by rw [x2, y2]; rfl
                        have HRES := hid (HPT.out.trans hres)
                        clear hx hy hres
                        go_wp2_with (fail)
                        (refine wp_region_calm (by kernel_rfl) (by kernel_rfl) ?_; (repeat (go_big_quiet_step ((fail)))); refine wpQuiet_nil ?_; rintro _ ⟨x, rfl⟩; go_wp2_with (fail))
                        go_roundw
                        case rel => exact ⟨j + 1, by omega, by go_num, by rw [HRES.out], HLi.out.latr _⟩
                        case measure => simp [intOf]; omega
                    · have x1 : (sz == T.z) = false := by simpa using hx
                      have x2 : decide (sz = T.z) = false := decide_eq_false hx
                      have hres : (false || (true && (decide (sz = T.z) && decide (T.z = R.a)))) = false := by rw [x2]; rfl
                      have HRES := hid (HPT.out.trans hres)
                      clear hx hres
                      go_wp2_with (fail)
                      (refine wp_region_calm (by kernel_rfl) (by kernel_rfl) ?_; (repeat (go_big_quiet_step ((fail)))); refine wpQuiet_nil ?_; rintro _ ⟨x, rfl⟩; go_wp2_with (fail))
                      go_roundw
                      case rel => exact ⟨j + 1, by omega, by go_num, by rw [HRES.out], HLi.out.latr _⟩
                      case measure => simp [intOf]; omega
                · go_wp2_with (fail)
                  (refine wp_region_calm (by kernel_rfl) (by kernel_rfl) ?_; (repeat (go_big_quiet_step ((fail)))); refine wpQuiet_nil ?_; rintro _ ⟨x, rfl⟩; go_wp2_with (fail))
                  go_roundw
                  case rel => exact ⟨j + 1, by omega, by go_num, by rw [HPT.out]; rfl, HLi.out.latr _⟩
                  case measure => simp [intOf]; omega
              · obtain rfl : j = el.length := by omega
                have HLw := hid (HL3.out.trans hli)
                rw [List.take_length, HPRF.out]
                (obtain ⟨hcpi0, hcpi1, hcpi2, hcpi3, hcpi4, hfpi0, hfpi1, hfpi2, hfpi3, hfpi4, hgpi⟩ := Blk.at5 (hPi))
                (obtain ⟨hcqi0, hcqi1, hcqi2, hcqi3, hcqi4, hfqi0, hfqi1, hfqi2, hfqi3, hfqi4, hgqi⟩ := Blk.at5 (hQi))
                have HPi := hid hPi
                clear hPi hQi hli
                go_wp2_with (fail)
                refine wp_region_calm (by kernel_rfl) (by kernel_rfl) ?_
                (repeat (go_big_quiet_step (fail)))
                go_big_quiet_step ((go_at_call 9; exact calm_of (H9.out _)))
                (repeat (go_big_quiet_step (fail)))
                skip
                refine wpQuiet_nil ?_
                rintro _ ⟨x, rfl⟩
                go_wp2_with (fail)
                go_roundw
                case rel => exact ⟨k + 1, by omega, by omega, by go_num, HLw.out.latr _, by rw [HGO.out]; exact HPi.out.latr _⟩
                case measure => simp [intOf]; omega
      · have h17 := fun W (h : Arr W 5 (.slice ea el.length ecap) el.length (snts el)) => lost17 R (.slice ea el.length ecap) el W h
        rw [of_ok HOK.out] at h17
        have hg : go1 false true el R = loses el R := rfl
        rw [hg] at hgo hokT
        have hlaw := lost_law el R
        have h9 := check9 (loses el R)
        rw [(chk_iff _).2 hokT] at h9
        generalize loses el R = T at *
        have HGO := hid hgo
        have H17 := hid h17
        have H9 := hid h9
        clear hgo h17 h9 hg hokT
        by_cases hz : T.z = R.z
        · have d1 : decide (R.z < T.z) = false := decide_eq_false (by omega)
          have d2 : decide (T.z < R.z) = false := decide_eq_false (by omega)
          clear hz hlaw
          as_aux_lemma =>
            go_wp2_with (fail)
            refine wp_region_calm_tail 7 (by kernel_rfl) (by kernel_rfl) ?_
            simp only [List.take_succ_cons, List.take_zero, List.drop_succ_cons, List.drop_zero]
            (repeat (go_big_quiet_step (fail)))
            go_big_quiet_step ((go_at_call 17; exact calm_of (H17.out _ (HAr.out.later (HL.out.trans (((Later.refl _).alloc _).trans (latr_later _ _)))))))
            (repeat (go_big_quiet_step (fail)))
            refine wpQuiet_nil ?_
            rintro W2 hW2
            replace hW2 := later_of hW2
            have HQ2 := hid ((Blk.new wr 23 #[.int .i64 R.z, .int .i64 R.h, .int .i64 R.a, .int .i64 R.f, .int .i64 R.b]).later hW2)
            have HP2 := hid ((HB.out.alloc (.cells #[.int .i64 R.z, .int .i64 R.h, .int .i64 R.a, .int .i64 R.f, .int .i64 R.b] 23)).later hW2)
            have HL2 := hid ((HL.out.alloc (.cells #[.int .i64 R.z, .int .i64 R.h, .int .i64 R.a, .int .i64 R.f, .int .i64 R.b] 23)).trans hW2)
            clear hW2
            (obtain ⟨hcp20, hcp21, hcp22, hcp23, hcp24, hfp20, hfp21, hfp22, hfp23, hfp24, hgp2⟩ := Blk.at5 (HP2.out))
            go_wp2_with (fail)
            obtain ⟨V, hV⟩ : ∃ V, V = (((((W2.setCell ⟨p, 0, none⟩ (.int .i64 T.z)).setCell ⟨p, 1, none⟩ (.int .i64 T.h)).setCell ⟨p, 2, none⟩ (.int .i64 T.a)).setCell ⟨p, 3, none⟩ (.int .i64 T.f)).setCell ⟨p, 4, none⟩ (.int .i64 T.b)) := ⟨_, rfl⟩
            have HP3 : Hid (Blk V p 23 (pc T)) := hid (by rw [hV]; exact (((((HP2.out.set_ 0 (.int .i64 T.z)).set_ 1 (.int .i64 T.h)).set_ 2 (.int .i64 T.a)).set_ 3 (.int .i64 T.f)).set_ 4 (.int .i64 T.b)))
            have HQ3 : Hid (Blk V wr.heap.size 23 (pc R)) := hid (by rw [hV]; exact (((((HQ2.out.far (p := ⟨p, 0, none⟩) (hqp) (.int .i64 T.z)).far (p := ⟨p, 1, none⟩) (hqp) (.int .i64 T.h)).far (p := ⟨p, 2, none⟩) (hqp) (.int .i64 T.a)).far (p := ⟨p, 3, none⟩) (hqp) (.int .i64 T.f)).far (p := ⟨p, 4, none⟩) (hqp) (.int .i64 T.b)))
            have HL3 : Hid (Later w V) := hid (by rw [hV]; exact (((((HL2.out.set (p := ⟨p, 0, none⟩) (hwp) (.int .i64 T.z)).set (p := ⟨p, 1, none⟩) (hwp) (.int .i64 T.h)).set (p := ⟨p, 2, none⟩) (hwp) (.int .i64 T.a)).set (p := ⟨p, 3, none⟩) (hwp) (.int .i64 T.f)).set (p := ⟨p, 4, none⟩) (hwp) (.int .i64 T.b)))
            rw [← hV]
            clear hV
            have hqz := HQ3.out.lt
            generalize wr.heap.size = wq at *
            go_loopw [7, 8] (fun pp jj wi => ∃ j : Nat, j ≤ el.length ∧ jj = .int .i64 j ∧ pp = .bool (pr T.z R.a (el.take j)) ∧ Later V wi) (fun _ jj _ => el.length - (intOf jj).toNat)
            case atStart => exact ⟨0, Nat.zero_le _, rfl, rfl, Later.refl _⟩
            case round =>
              obtain ⟨j, hj, rfl, rfl, hli⟩ := hrel
              have hPi : Blk wr p 23 (pc T) := HP3.out.later hli
              have hQi : Blk wr wq 23 (pc R) := HQ3.out.later hli
              obtain ⟨f0, f1, f2, fb⟩ := HE.out _ (HL3.out.trans hli)
              dsimp only at f0 f1 f2
              by_cases hjl : j < el.length
              · obtain ⟨b2, off2, rfl, hb2, hc2⟩ := HECELL.out (by omega)
                have hb2i : b2 < wr.heap.size := Nat.lt_of_lt_of_le hb2 (HL3.out.trans hli).size
                have hst := (flatMap_at sc 5 (fun _ => rfl) el).2 j
                have g2 : wr.cell? ⟨b2, off2 + j * 5 + 2, none⟩ = some (.int .i64 el[j].z) := ((HL3.out.trans hli).cell hb2).trans (hc2 _ _ (hst 2 hjl (by omega)))
                have g4 : wr.cell? ⟨b2, off2 + j * 5 + 4, none⟩ = some (.bool el[j].p) := ((HL3.out.trans hli).cell hb2).trans (hc2 _ _ (hst 4 hjl (by omega)))
                clear hst hc2
                have hpt := pr_take T.z R.a el j hjl
                generalize pr T.z R.a (el.take j) = pb at *
                generalize el[j].z = sz at *
                generalize el[j].p = sp at *
                have HPT := hid hpt
                have HLi := hid hli
                (obtain ⟨hcpi0, hcpi1, hcpi2, hcpi3, hcpi4, hfpi0, hfpi1, hfpi2, hfpi3, hfpi4, hgpi⟩ := Blk.at5 (hPi))
                (obtain ⟨hcqi0, hcqi1, hcqi2, hcqi3, hcqi4, hfqi0, hfqi1, hfqi2, hfqi3, hfqi4, hgqi⟩ := Blk.at5 (hQi))
                clear hpt hli hPi hQi
                cases pb
                · cases sp
                  · go_wp2_with (fail)
                    (refine wp_region_calm (by kernel_rfl) (by kernel_rfl) ?_; (repeat (go_big_quiet_step ((fail)))); refine wpQuiet_nil ?_; rintro _ ⟨x, rfl⟩; go_wp2_with (fail))
                    go_roundw
                    case rel => exact ⟨j + 1, by omega, by go_num, by rw [HPT.out]; rfl, HLi.out.latr _⟩
                    case measure => simp [intOf]; omega
                  · by_cases hx : sz = T.z
                    · have x1 : (sz == T.z) = true := by simpa using hx
                      have x2 : decide (sz = T.z) = true := decide_eq_true hx
                      by_cases hy : T.z = R.a
                      · have y1 : (T.z == R.a) = true := by simpa using hy
                        have y2 : decide (T.z = R.a) = true := decide_eq_true hy
                        have hres : (false || (true && (decide (sz = T.z) && decide (T.z = R.a)))) = true := by rw [x2, y2]; rfl
                        have HRES := hid (HPT.out.trans hres)
                        clear hx hy hres
                        go_wp2_with (fail)
                        (refine wp_region_calm (by kernel_rfl) (by kernel_rfl) ?_; (repeat (go_big_quiet_step ((fail)))); refine wpQuiet_nil ?_; rintro _ ⟨x, rfl⟩; go_wp2_with (fail))
                        go_roundw
                        case rel => exact ⟨j + 1, by omega, by go_num, by rw [HRES.out], HLi.out.latr _⟩
                        case measure => simp [intOf]; omega
                      · have y1 : (T.z == R.a) = false := by simpa using hy
                        have y2 : decide (T.z = R.a) = false := decide_eq_false hy
                        have hres : (false || (true && (decide (sz = T.z) && decide (T.z = R.a)))) = false := by rw [x2, y2]; rfl
                        have HRES := hid (HPT.out.trans hres)
                        clear hx hy hres
                        go_wp2_with (fail)
                        (refine wp_region_calm (by kernel_rfl) (by kernel_rfl) ?_; (repeat (go_big_quiet_step ((fail)))); refine wpQuiet_nil ?_; rintro _ ⟨x, rfl⟩; go_wp2_with (fail))
                        go_roundw
                        case rel => exact ⟨j + 1, by omega, by go_num, by rw [HRES.out], HLi.out.latr _⟩
                        case measure => simp [intOf]; omega
                    · have x1 : (sz == T.z) = false := by simpa using hx
                      have x2 : decide (sz = T.z) = false := decide_eq_false hx
                      have hres : (false || (true && (decide (sz = T.z) && decide (T.z = R.a)))) = false := by rw [x2]; rfl
                      have HRES := hid (HPT.out.trans hres)
                      clear hx hres
                      go_wp2_with (fail)
                      (refine wp_region_calm (by kernel_rfl) (by kernel_rfl) ?_; (repeat (go_big_quiet_step ((fail)))); refine wpQuiet_nil ?_; rintro _ ⟨x, rfl⟩; go_wp2_with (fail))
                      go_roundw
                      case rel => exact ⟨j + 1, by omega, by go_num, by rw [HRES.out], HLi.out.latr _⟩
                      case measure => simp [intOf]; omega
                · go_wp2_with (fail)
                  (refine wp_region_calm (by kernel_rfl) (by kernel_rfl) ?_; (repeat (go_big_quiet_step ((fail)))); refine wpQuiet_nil ?_; rintro _ ⟨x, rfl⟩; go_wp2_with (fail))
                  go_roundw
                  case rel => exact ⟨j + 1, by omega, by go_num, by rw [HPT.out]; rfl, HLi.out.latr _⟩
                  case measure => simp [intOf]; omega
              · obtain rfl : j = el.length := by omega
                have HLw := hid (HL3.out.trans hli)
                generalize pr T.z R.a (el.take el.length) = pb at *
                (obtain ⟨hcpi0, hcpi1, hcpi2, hcpi3, hcpi4, hfpi0, hfpi1, hfpi2, hfpi3, hfpi4, hgpi⟩ := Blk.at5 (hPi))
                (obtain ⟨hcqi0, hcqi1, hcqi2, hcqi3, hcqi4, hfqi0, hfqi1, hfqi2, hfqi3, hfqi4, hgqi⟩ := Blk.at5 (hQi))
                have HPi := hid hPi
                clear hPi hQi hli
                go_wp2_with (fail)
                refine wp_region_calm (by kernel_rfl) (by kernel_rfl) ?_
                (repeat (go_big_quiet_step (fail)))
                go_big_quiet_step ((go_at_call 9; exact calm_of (H9.out _)))
                (repeat (go_big_quiet_step (fail)))
                skip
                refine wpQuiet_nil ?_
                rintro _ ⟨x, rfl⟩
                go_wp2_with (fail)
                go_roundw
                case rel => exact ⟨k + 1, by omega, by omega, by go_num, HLw.out.latr _, by rw [HGO.out]; exact HPi.out.latr _⟩
                case measure => simp [intOf]; omega
        · obtain ⟨bb, hT⟩ := hlaw.resolve_left hz
          obtain ⟨o1, _⟩ := HOK.out
          have t1 : T.z = 256 := by rw [hT]
          have t2 : T.h = 1500 := by rw [hT]
          have t3 : T.a = 0 := by rw [hT]
          have t4 : T.f = 0 := by rw [hT]
          have t5 : T.b = bb := by rw [hT]
          have d1 : decide (R.z < T.z) = false := decide_eq_false (by omega)
          have d2 : decide (T.z < R.z) = true := decide_eq_true (by omega)
          have s1 : (T.z == 256) = true := by simpa using t1
          have s2 : (T.h == 1500) = true := by simpa using t2
          have s3 : (T.a == 0) = true := by simpa using t3
          have s4 : (T.f == 0) = true := by simpa using t4
          have s1' : decide (T.z = 256) = true := decide_eq_true t1
          have s2' : decide (T.h = 1500) = true := decide_eq_true t2
          have s3' : decide (T.a = 0) = true := decide_eq_true t3
          have s4' : decide (T.f = 0) = true := decide_eq_true t4
          have s1'' : (T.z != 256) = false := by simpa using t1
          by_cases hb0 : bb = 0
          · have b1 : (T.b == 0) = true := by rw [t5]; simpa using hb0
            have b2 : decide (T.b = 0) = true := decide_eq_true (by rw [t5]; exact hb0)
            clear hz hlaw hT hb0 t1 t2 t3 t4 t5
            as_aux_lemma =>
              go_wp2_with (fail)
              refine wp_region_calm_tail 7 (by kernel_rfl) (by kernel_rfl) ?_
              simp only [List.take_succ_cons, List.take_zero, List.drop_succ_cons, List.drop_zero]
              (repeat (go_big_quiet_step (fail)))
              go_big_quiet_step ((go_at_call 17; exact calm_of (H17.out _ (HAr.out.later (HL.out.trans (((Later.refl _).alloc _).trans (latr_later _ _)))))))
              (repeat (go_big_quiet_step (fail)))
              refine wpQuiet_nil ?_
              rintro W2 hW2
              replace hW2 := later_of hW2
              have HQ2 := hid ((Blk.new wr 23 #[.int .i64 R.z, .int .i64 R.h, .int .i64 R.a, .int .i64 R.f, .int .i64 R.b]).later hW2)
              have HP2 := hid ((HB.out.alloc (.cells #[.int .i64 R.z, .int .i64 R.h, .int .i64 R.a, .int .i64 R.f, .int .i64 R.b] 23)).later hW2)
              have HL2 := hid ((HL.out.alloc (.cells #[.int .i64 R.z, .int .i64 R.h, .int .i64 R.a, .int .i64 R.f, .int .i64 R.b] 23)).trans hW2)
              clear hW2
              (obtain ⟨hcp20, hcp21, hcp22, hcp23, hcp24, hfp20, hfp21, hfp22, hfp23, hfp24, hgp2⟩ := Blk.at5 (HP2.out))
              go_wp2_with (fail)
              obtain ⟨V, hV⟩ : ∃ V, V = (((((W2.setCell ⟨p, 0, none⟩ (.int .i64 T.z)).setCell ⟨p, 1, none⟩ (.int .i64 T.h)).setCell ⟨p, 2, none⟩ (.int .i64 T.a)).setCell ⟨p, 3, none⟩ (.int .i64 T.f)).setCell ⟨p, 4, none⟩ (.int .i64 T.b)) := ⟨_, rfl⟩
              have HP3 : Hid (Blk V p 23 (pc T)) := hid (by rw [hV]; exact (((((HP2.out.set_ 0 (.int .i64 T.z)).set_ 1 (.int .i64 T.h)).set_ 2 (.int .i64 T.a)).set_ 3 (.int .i64 T.f)).set_ 4 (.int .i64 T.b)))
              have HQ3 : Hid (Blk V wr.heap.size 23 (pc R)) := hid (by rw [hV]; exact (((((HQ2.out.far (p := ⟨p, 0, none⟩) (hqp) (.int .i64 T.z)).far (p := ⟨p, 1, none⟩) (hqp) (.int .i64 T.h)).far (p := ⟨p, 2, none⟩) (hqp) (.int .i64 T.a)).far (p := ⟨p, 3, none⟩) (hqp) (.int .i64 T.f)).far (p := ⟨p, 4, none⟩) (hqp) (.int .i64 T.b)))
              have HL3 : Hid (Later w V) := hid (by rw [hV]; exact (((((HL2.out.set (p := ⟨p, 0, none⟩) (hwp) (.int .i64 T.z)).set (p := ⟨p, 1, none⟩) (hwp) (.int .i64 T.h)).set (p := ⟨p, 2, none⟩) (hwp) (.int .i64 T.a)).set (p := ⟨p, 3, none⟩) (hwp) (.int .i64 T.f)).set (p := ⟨p, 4, none⟩) (hwp) (.int .i64 T.b)))
              rw [← hV]
              clear hV
              have hqz := HQ3.out.lt
              generalize wr.heap.size = wq at *
              go_loopw [7, 8] (fun pp jj wi => ∃ j : Nat, j ≤ el.length ∧ jj = .int .i64 j ∧ pp = .bool (pr T.z R.a (el.take j)) ∧ Later V wi) (fun _ jj _ => el.length - (intOf jj).toNat)
              case atStart => exact ⟨0, Nat.zero_le _, rfl, rfl, Later.refl _⟩
              case round =>
                obtain ⟨j, hj, rfl, rfl, hli⟩ := hrel
                have hPi : Blk wr p 23 (pc T) := HP3.out.later hli
                have hQi : Blk wr wq 23 (pc R) := HQ3.out.later hli
                obtain ⟨f0, f1, f2, fb⟩ := HE.out _ (HL3.out.trans hli)
                dsimp only at f0 f1 f2
                by_cases hjl : j < el.length
                · obtain ⟨b2, off2, rfl, hb2, hc2⟩ := HECELL.out (by omega)
                  have hb2i : b2 < wr.heap.size := Nat.lt_of_lt_of_le hb2 (HL3.out.trans hli).size
                  have hst := (flatMap_at sc 5 (fun _ => rfl) el).2 j
                  have g2 : wr.cell? ⟨b2, off2 + j * 5 + 2, none⟩ = some (.int .i64 el[j].z) := ((HL3.out.trans hli).cell hb2).trans (hc2 _ _ (hst 2 hjl (by omega)))
                  have g4 : wr.cell? ⟨b2, off2 + j * 5 + 4, none⟩ = some (.bool el[j].p) := ((HL3.out.trans hli).cell hb2).trans (hc2 _ _ (hst 4 hjl (by omega)))
                  clear hst hc2
                  have hpt := pr_take T.z R.a el j hjl
                  generalize pr T.z R.a (el.take j) = pb at *
                  generalize el[j].z = sz at *
                  generalize el[j].p = sp at *
                  have HPT := hid hpt
                  have HLi := hid hli
                  (obtain ⟨hcpi0, hcpi1, hcpi2, hcpi3, hcpi4, hfpi0, hfpi1, hfpi2, hfpi3, hfpi4, hgpi⟩ := Blk.at5 (hPi))
                  (obtain ⟨hcqi0, hcqi1, hcqi2, hcqi3, hcqi4, hfqi0, hfqi1, hfqi2, hfqi3, hfqi4, hgqi⟩ := Blk.at5 (hQi))
                  clear hpt hli hPi hQi
                  cases pb
                  · cases sp
                    · go_wp2_with (fail)
                      (refine wp_region_calm (by kernel_rfl) (by kernel_rfl) ?_; (repeat (go_big_quiet_step ((fail)))); refine wpQuiet_nil ?_; rintro _ ⟨x, rfl⟩; go_wp2_with (fail))
                      go_roundw
                      case rel => exact ⟨j + 1, by omega, by go_num, by rw [HPT.out]; rfl, HLi.out.latr _⟩
                      case measure => simp [intOf]; omega
                    · by_cases hx : sz = T.z
                      · have x1 : (sz == T.z) = true := by simpa using hx
                        have x2 : decide (sz = T.z) = true := decide_eq_true hx
                        by_cases hy : T.z = R.a
                        · have y1 : (T.z == R.a) = true := by simpa using hy
                          have y2 : decide (T.z = R.a) = true := decide_eq_true hy
                          have hres : (false || (true && (decide (sz = T.z) && decide (T.z = R.a)))) = true := by rw [x2, y2]; rfl
                          have HRES := hid (HPT.out.trans hres)
                          clear hx hy hres
                          go_wp2_with (fail)
                          (refine wp_region_calm (by kernel_rfl) (by kernel_rfl) ?_; (repeat (go_big_quiet_step ((fail)))); refine wpQuiet_nil ?_; rintro _ ⟨x, rfl⟩; go_wp2_with (fail))
                          go_roundw
                          case rel => exact ⟨j + 1, by omega, by go_num, by rw [HRES.out], HLi.out.latr _⟩
                          case measure => simp [intOf]; omega
                        · have y1 : (T.z == R.a) = false := by simpa using hy
                          have y2 : decide (T.z = R.a) = false := decide_eq_false hy
                          have hres : (false || (true && (decide (sz = T.z) && decide (T.z = R.a)))) = false := by rw [x2, y2]; rfl
                          have HRES := hid (HPT.out.trans hres)
                          clear hx hy hres
                          go_wp2_with (fail)
                          (refine wp_region_calm (by kernel_rfl) (by kernel_rfl) ?_; (repeat (go_big_quiet_step ((fail)))); refine wpQuiet_nil ?_; rintro _ ⟨x, rfl⟩; go_wp2_with (fail))
                          go_roundw
                          case rel => exact ⟨j + 1, by omega, by go_num, by rw [HRES.out], HLi.out.latr _⟩
                          case measure => simp [intOf]; omega
                      · have x1 : (sz == T.z) = false := by simpa using hx
                        have x2 : decide (sz = T.z) = false := decide_eq_false hx
                        have hres : (false || (true && (decide (sz = T.z) && decide (T.z = R.a)))) = false := by rw [x2]; rfl
                        have HRES := hid (HPT.out.trans hres)
                        clear hx hres
                        go_wp2_with (fail)
                        (refine wp_region_calm (by kernel_rfl) (by kernel_rfl) ?_; (repeat (go_big_quiet_step ((fail)))); refine wpQuiet_nil ?_; rintro _ ⟨x, rfl⟩; go_wp2_with (fail))
                        go_roundw
                        case rel => exact ⟨j + 1, by omega, by go_num, by rw [HRES.out], HLi.out.latr _⟩
                        case measure => simp [intOf]; omega
                  · go_wp2_with (fail)
                    (refine wp_region_calm (by kernel_rfl) (by kernel_rfl) ?_; (repeat (go_big_quiet_step ((fail)))); refine wpQuiet_nil ?_; rintro _ ⟨x, rfl⟩; go_wp2_with (fail))
                    go_roundw
                    case rel => exact ⟨j + 1, by omega, by go_num, by rw [HPT.out]; rfl, HLi.out.latr _⟩
                    case measure => simp [intOf]; omega
                · obtain rfl : j = el.length := by omega
                  have HLw := hid (HL3.out.trans hli)
                  generalize pr T.z R.a (el.take el.length) = pb at *
                  (obtain ⟨hcpi0, hcpi1, hcpi2, hcpi3, hcpi4, hfpi0, hfpi1, hfpi2, hfpi3, hfpi4, hgpi⟩ := Blk.at5 (hPi))
                  (obtain ⟨hcqi0, hcqi1, hcqi2, hcqi3, hcqi4, hfqi0, hfqi1, hfqi2, hfqi3, hfqi4, hgqi⟩ := Blk.at5 (hQi))
                  have HPi := hid hPi
                  clear hPi hQi hli
                  go_wp2_with (fail)
                  refine wp_region_calm (by kernel_rfl) (by kernel_rfl) ?_
                  (repeat (go_big_quiet_step (fail)))
                  go_big_quiet_step ((go_at_call 9; exact calm_of (H9.out _)))
                  (repeat (go_big_quiet_step (fail)))
                  go_big_quiet_step ((go_at_call 21; exact calm_of (H21.out _)))
                  (repeat (go_big_quiet_step (fail)))
                  refine wpQuiet_nil ?_
                  rintro _ ⟨x, rfl⟩
                  go_wp2_with (fail)
                  go_roundw
                  case rel => exact ⟨k + 1, by omega, by omega, by go_num, HLw.out.latr _, by rw [HGO.out]; exact HPi.out.latr _⟩
                  case measure => simp [intOf]; omega
          · have b1 : (T.b == 0) = false := by rw [t5]; simpa using hb0
            have b2 : decide (T.b = 0) = false := decide_eq_false (by rw [t5]; exact hb0)
            clear hz hlaw hT hb0 t1 t2 t3 t4 t5
            as_aux_lemma =>
              go_wp2_with (fail)
              refine wp_region_calm_tail 7 (by kernel_rfl) (by kernel_rfl) ?_
              simp only [List.take_succ_cons, List.take_zero, List.drop_succ_cons, List.drop_zero]
              (repeat (go_big_quiet_step (fail)))
              go_big_quiet_step ((go_at_call 17; exact calm_of (H17.out _ (HAr.out.later (HL.out.trans (((Later.refl _).alloc _).trans (latr_later _ _)))))))
              (repeat (go_big_quiet_step (fail)))
              refine wpQuiet_nil ?_
              rintro W2 hW2
              replace hW2 := later_of hW2
              have HQ2 := hid ((Blk.new wr 23 #[.int .i64 R.z, .int .i64 R.h, .int .i64 R.a, .int .i64 R.f, .int .i64 R.b]).later hW2)
              have HP2 := hid ((HB.out.alloc (.cells #[.int .i64 R.z, .int .i64 R.h, .int .i64 R.a, .int .i64 R.f, .int .i64 R.b] 23)).later hW2)
              have HL2 := hid ((HL.out.alloc (.cells #[.int .i64 R.z, .int .i64 R.h, .int .i64 R.a, .int .i64 R.f, .int .i64 R.b] 23)).trans hW2)
              clear hW2
              (obtain ⟨hcp20, hcp21, hcp22, hcp23, hcp24, hfp20, hfp21, hfp22, hfp23, hfp24, hgp2⟩ := Blk.at5 (HP2.out))
              go_wp2_with (fail)
              obtain ⟨V, hV⟩ : ∃ V, V = (((((W2.setCell ⟨p, 0, none⟩ (.int .i64 T.z)).setCell ⟨p, 1, none⟩ (.int .i64 T.h)).setCell ⟨p, 2, none⟩ (.int .i64 T.a)).setCell ⟨p, 3, none⟩ (.int .i64 T.f)).setCell ⟨p, 4, none⟩ (.int .i64 T.b)) := ⟨_, rfl⟩
              have HP3 : Hid (Blk V p 23 (pc T)) := hid (by rw [hV]; exact (((((HP2.out.set_ 0 (.int .i64 T.z)).set_ 1 (.int .i64 T.h)).set_ 2 (.int .i64 T.a)).set_ 3 (.int .i64 T.f)).set_ 4 (.int .i64 T.b)))
              have HQ3 : Hid (Blk V wr.heap.size 23 (pc R)) := hid (by rw [hV]; exact (((((HQ2.out.far (p := ⟨p, 0, none⟩) (hqp) (.int .i64 T.z)).far (p := ⟨p, 1, none⟩) (hqp) (.int .i64 T.h)).far (p := ⟨p, 2, none⟩) (hqp) (.int .i64 T.a)).far (p := ⟨p, 3, none⟩) (hqp) (.int .i64 T.f)).far (p := ⟨p, 4, none⟩) (hqp) (.int .i64 T.b)))
              have HL3 : Hid (Later w V) := hid (by rw [hV]; exact (((((HL2.out.set (p := ⟨p, 0, none⟩) (hwp) (.int .i64 T.z)).set (p := ⟨p, 1, none⟩) (hwp) (.int .i64 T.h)).set (p := ⟨p, 2, none⟩) (hwp) (.int .i64 T.a)).set (p := ⟨p, 3, none⟩) (hwp) (.int .i64 T.f)).set (p := ⟨p, 4, none⟩) (hwp) (.int .i64 T.b)))
              rw [← hV]
              clear hV
              have hqz := HQ3.out.lt
              generalize wr.heap.size = wq at *
              go_loopw [7, 8] (fun pp jj wi => ∃ j : Nat, j ≤ el.length ∧ jj = .int .i64 j ∧ pp = .bool (pr T.z R.a (el.take j)) ∧ Later V wi) (fun _ jj _ => el.length - (intOf jj).toNat)
              case atStart => exact ⟨0, Nat.zero_le _, rfl, rfl, Later.refl _⟩
              case round =>
                obtain ⟨j, hj, rfl, rfl, hli⟩ := hrel
                have hPi : Blk wr p 23 (pc T) := HP3.out.later hli
                have hQi : Blk wr wq 23 (pc R) := HQ3.out.later hli
                obtain ⟨f0, f1, f2, fb⟩ := HE.out _ (HL3.out.trans hli)
                dsimp only at f0 f1 f2
                by_cases hjl : j < el.length
                · obtain ⟨b2, off2, rfl, hb2, hc2⟩ := HECELL.out (by omega)
                  have hb2i : b2 < wr.heap.size := Nat.lt_of_lt_of_le hb2 (HL3.out.trans hli).size
                  have hst := (flatMap_at sc 5 (fun _ => rfl) el).2 j
                  have g2 : wr.cell? ⟨b2, off2 + j * 5 + 2, none⟩ = some (.int .i64 el[j].z) := ((HL3.out.trans hli).cell hb2).trans (hc2 _ _ (hst 2 hjl (by omega)))
                  have g4 : wr.cell? ⟨b2, off2 + j * 5 + 4, none⟩ = some (.bool el[j].p) := ((HL3.out.trans hli).cell hb2).trans (hc2 _ _ (hst 4 hjl (by omega)))
                  clear hst hc2
                  have hpt := pr_take T.z R.a el j hjl
                  generalize pr T.z R.a (el.take j) = pb at *
                  generalize el[j].z = sz at *
                  generalize el[j].p = sp at *
                  have HPT := hid hpt
                  have HLi := hid hli
                  (obtain ⟨hcpi0, hcpi1, hcpi2, hcpi3, hcpi4, hfpi0, hfpi1, hfpi2, hfpi3, hfpi4, hgpi⟩ := Blk.at5 (hPi))
                  (obtain ⟨hcqi0, hcqi1, hcqi2, hcqi3, hcqi4, hfqi0, hfqi1, hfqi2, hfqi3, hfqi4, hgqi⟩ := Blk.at5 (hQi))
                  clear hpt hli hPi hQi
                  cases pb
                  · cases sp
                    · go_wp2_with (fail)
                      (refine wp_region_calm (by kernel_rfl) (by kernel_rfl) ?_; (repeat (go_big_quiet_step ((fail)))); refine wpQuiet_nil ?_; rintro _ ⟨x, rfl⟩; go_wp2_with (fail))
                      go_roundw
                      case rel => exact ⟨j + 1, by omega, by go_num, by rw [HPT.out]; rfl, HLi.out.latr _⟩
                      case measure => simp [intOf]; omega
                    · by_cases hx : sz = T.z
                      · have x1 : (sz == T.z) = true := by simpa using hx
                        have x2 : decide (sz = T.z) = true := decide_eq_true hx
                        by_cases hy : T.z = R.a
                        · have y1 : (T.z == R.a) = true := by simpa using hy
                          have y2 : decide (T.z = R.a) = true := decide_eq_true hy
                          have hres : (false || (true && (decide (sz = T.z) && decide (T.z = R.a)))) = true := by rw [x2, y2]; rfl
                          have HRES := hid (HPT.out.trans hres)
                          clear hx hy hres
                          go_wp2_with (fail)
                          (refine wp_region_calm (by kernel_rfl) (by kernel_rfl) ?_; (repeat (go_big_quiet_step ((fail)))); refine wpQuiet_nil ?_; rintro _ ⟨x, rfl⟩; go_wp2_with (fail))
                          go_roundw
                          case rel => exact ⟨j + 1, by omega, by go_num, by rw [HRES.out], HLi.out.latr _⟩
                          case measure => simp [intOf]; omega
                        · have y1 : (T.z == R.a) = false := by simpa using hy
                          have y2 : decide (T.z = R.a) = false := decide_eq_false hy
                          have hres : (false || (true && (decide (sz = T.z) && decide (T.z = R.a)))) = false := by rw [x2, y2]; rfl
                          have HRES := hid (HPT.out.trans hres)
                          clear hx hy hres
                          go_wp2_with (fail)
                          (refine wp_region_calm (by kernel_rfl) (by kernel_rfl) ?_; (repeat (go_big_quiet_step ((fail)))); refine wpQuiet_nil ?_; rintro _ ⟨x, rfl⟩; go_wp2_with (fail))
                          go_roundw
                          case rel => exact ⟨j + 1, by omega, by go_num, by rw [HRES.out], HLi.out.latr _⟩
                          case measure => simp [intOf]; omega
                      · have x1 : (sz == T.z) = false := by simpa using hx
                        have x2 : decide (sz = T.z) = false := decide_eq_false hx
                        have hres : (false || (true && (decide (sz = T.z) && decide (T.z = R.a)))) = false := by rw [x2]; rfl
                        have HRES := hid (HPT.out.trans hres)
                        clear hx hres
                        go_wp2_with (fail)
                        (refine wp_region_calm (by kernel_rfl) (by kernel_rfl) ?_; (repeat (go_big_quiet_step ((fail)))); refine wpQuiet_nil ?_; rintro _ ⟨x, rfl⟩; go_wp2_with (fail))
                        go_roundw
                        case rel => exact ⟨j + 1, by omega, by go_num, by rw [HRES.out], HLi.out.latr _⟩
                        case measure => simp [intOf]; omega
                  · go_wp2_with (fail)
                    (refine wp_region_calm (by kernel_rfl) (by kernel_rfl) ?_; (repeat (go_big_quiet_step ((fail)))); refine wpQuiet_nil ?_; rintro _ ⟨x, rfl⟩; go_wp2_with (fail))
                    go_roundw
                    case rel => exact ⟨j + 1, by omega, by go_num, by rw [HPT.out]; rfl, HLi.out.latr _⟩
                    case measure => simp [intOf]; omega
                · obtain rfl : j = el.length := by omega
                  have HLw := hid (HL3.out.trans hli)
                  generalize pr T.z R.a (el.take el.length) = pb at *
                  (obtain ⟨hcpi0, hcpi1, hcpi2, hcpi3, hcpi4, hfpi0, hfpi1, hfpi2, hfpi3, hfpi4, hgpi⟩ := Blk.at5 (hPi))
                  (obtain ⟨hcqi0, hcqi1, hcqi2, hcqi3, hcqi4, hfqi0, hfqi1, hfqi2, hfqi3, hfqi4, hgqi⟩ := Blk.at5 (hQi))
                  have HPi := hid hPi
                  clear hPi hQi hli
                  go_wp2_with (fail)
                  refine wp_region_calm (by kernel_rfl) (by kernel_rfl) ?_
                  (repeat (go_big_quiet_step (fail)))
                  go_big_quiet_step ((go_at_call 9; exact calm_of (H9.out _)))
                  (repeat (go_big_quiet_step (fail)))
                  go_big_quiet_step ((go_at_call 21; exact calm_of (H21.out _)))
                  (repeat (go_big_quiet_step (fail)))
                  refine wpQuiet_nil ?_
                  rintro _ ⟨x, rfl⟩
                  go_wp2_with (fail)
                  go_roundw
                  case rel => exact ⟨k + 1, by omega, by omega, by go_num, HLw.out.latr _, by rw [HGO.out]; exact HPi.out.latr _⟩
                  case measure => simp [intOf]; omega
    · have h13 := ask13 R
      rw [of_ok HOK.out] at h13
      have hg : go1 true egn el R = ask R := rfl
      rw [hg] at hgo hokT
      have h9 := check9 (ask R)
      rw [(chk_iff _).2 hokT] at h9
      have hz : (ask R).z = R.z := rfl
      generalize ask R = T at *
      have HGO := hid hgo
      have H13 := hid h13
      have H9 := hid h9
      clear hgo h13 h9 hg hokT
      have d1 : decide (R.z < T.z) = false := decide_eq_false (by omega)
      have d2 : decide (T.z < R.z) = false := decide_eq_false (by omega)
      clear hz
      as_aux_lemma =>
        go_wp2_with (fail)
        refine (H13.out _).later.mono ?_
        rintro e W2 ⟨rfl, hW2⟩
        have HQ2 := hid ((Blk.new wr 23 #[.int .i64 R.z, .int .i64 R.h, .int .i64 R.a, .int .i64 R.f, .int .i64 R.b]).later hW2)
        have HP2 := hid ((HB.out.alloc (.cells #[.int .i64 R.z, .int .i64 R.h, .int .i64 R.a, .int .i64 R.f, .int .i64 R.b] 23)).later hW2)
        have HL2 := hid ((HL.out.alloc (.cells #[.int .i64 R.z, .int .i64 R.h, .int .i64 R.a, .int .i64 R.f, .int .i64 R.b] 23)).trans hW2)
        clear hW2
        (obtain ⟨hcp20, hcp21, hcp22, hcp23, hcp24, hfp20, hfp21, hfp22, hfp23, hfp24, hgp2⟩ := Blk.at5 (HP2.out))
        go_wp2_with (fail)
        obtain ⟨V, hV⟩ : ∃ V, V = (((((W2.setCell ⟨p, 0, none⟩ (.int .i64 T.z)).setCell ⟨p, 1, none⟩ (.int .i64 T.h)).setCell ⟨p, 2, none⟩ (.int .i64 T.a)).setCell ⟨p, 3, none⟩ (.int .i64 T.f)).setCell ⟨p, 4, none⟩ (.int .i64 T.b)) := ⟨_, rfl⟩
        have HP3 : Hid (Blk V p 23 (pc T)) := hid (by rw [hV]; exact (((((HP2.out.set_ 0 (.int .i64 T.z)).set_ 1 (.int .i64 T.h)).set_ 2 (.int .i64 T.a)).set_ 3 (.int .i64 T.f)).set_ 4 (.int .i64 T.b)))
        have HQ3 : Hid (Blk V wr.heap.size 23 (pc R)) := hid (by rw [hV]; exact (((((HQ2.out.far (p := ⟨p, 0, none⟩) (hqp) (.int .i64 T.z)).far (p := ⟨p, 1, none⟩) (hqp) (.int .i64 T.h)).far (p := ⟨p, 2, none⟩) (hqp) (.int .i64 T.a)).far (p := ⟨p, 3, none⟩) (hqp) (.int .i64 T.f)).far (p := ⟨p, 4, none⟩) (hqp) (.int .i64 T.b)))
        have HL3 : Hid (Later w V) := hid (by rw [hV]; exact (((((HL2.out.set (p := ⟨p, 0, none⟩) (hwp) (.int .i64 T.z)).set (p := ⟨p, 1, none⟩) (hwp) (.int .i64 T.h)).set (p := ⟨p, 2, none⟩) (hwp) (.int .i64 T.a)).set (p := ⟨p, 3, none⟩) (hwp) (.int .i64 T.f)).set (p := ⟨p, 4, none⟩) (hwp) (.int .i64 T.b)))
        rw [← hV]
        clear hV
        have hqz := HQ3.out.lt
        generalize wr.heap.size = wq at *
        go_loopw [7, 8] (fun pp jj wi => ∃ j : Nat, j ≤ el.length ∧ jj = .int .i64 j ∧ pp = .bool (pr T.z R.a (el.take j)) ∧ Later V wi) (fun _ jj _ => el.length - (intOf jj).toNat)
        case atStart => exact ⟨0, Nat.zero_le _, rfl, rfl, Later.refl _⟩
        case round =>
          obtain ⟨j, hj, rfl, rfl, hli⟩ := hrel
          have hPi : Blk wr p 23 (pc T) := HP3.out.later hli
          have hQi : Blk wr wq 23 (pc R) := HQ3.out.later hli
          obtain ⟨f0, f1, f2, fb⟩ := HE.out _ (HL3.out.trans hli)
          dsimp only at f0 f1 f2
          by_cases hjl : j < el.length
          · obtain ⟨b2, off2, rfl, hb2, hc2⟩ := HECELL.out (by omega)
            have hb2i : b2 < wr.heap.size := Nat.lt_of_lt_of_le hb2 (HL3.out.trans hli).size
            have hst := (flatMap_at sc 5 (fun _ => rfl) el).2 j
            have g2 : wr.cell? ⟨b2, off2 + j * 5 + 2, none⟩ = some (.int .i64 el[j].z) := ((HL3.out.trans hli).cell hb2).trans (hc2 _ _ (hst 2 hjl (by omega)))
            have g4 : wr.cell? ⟨b2, off2 + j * 5 + 4, none⟩ = some (.bool el[j].p) := ((HL3.out.trans hli).cell hb2).trans (hc2 _ _ (hst 4 hjl (by omega)))
            clear hst hc2
            have hpt := pr_take T.z R.a el j hjl
            generalize pr T.z R.a (el.take j) = pb at *
            generalize el[j].z = sz at *
            generalize el[j].p = sp at *
            have HPT := hid hpt
            have HLi := hid hli
            (obtain ⟨hcpi0, hcpi1, hcpi2, hcpi3, hcpi4, hfpi0, hfpi1, hfpi2, hfpi3, hfpi4, hgpi⟩ := Blk.at5 (hPi))
            (obtain ⟨hcqi0, hcqi1, hcqi2, hcqi3, hcqi4, hfqi0, hfqi1, hfqi2, hfqi3, hfqi4, hgqi⟩ := Blk.at5 (hQi))
            clear hpt hli hPi hQi
            cases pb
            · cases sp
              · go_wp2_with (fail)
                (refine wp_region_calm (by kernel_rfl) (by kernel_rfl) ?_; (repeat (go_big_quiet_step ((fail)))); refine wpQuiet_nil ?_; rintro _ ⟨x, rfl⟩; go_wp2_with (fail))
                go_roundw
                case rel => exact ⟨j + 1, by omega, by go_num, by rw [HPT.out]; rfl, HLi.out.latr _⟩
                case measure => simp [intOf]; omega
              · by_cases hx : sz = T.z
                · have x1 : (sz == T.z) = true := by simpa using hx
                  have x2 : decide (sz = T.z) = true := decide_eq_true hx
                  by_cases hy : T.z = R.a
                  · have y1 : (T.z == R.a) = true := by simpa using hy
                    have y2 : decide (T.z = R.a) = true := decide_eq_true hy
                    have hres : (false || (true && (decide (sz = T.z) && decide (T.z = R.a)))) = true := by rw [x2, y2]; rfl
                    have HRES := hid (HPT.out.trans hres)
                    clear hx hy hres
                    go_wp2_with (fail)
                    (refine wp_region_calm (by kernel_rfl) (by kernel_rfl) ?_; (repeat (go_big_quiet_step ((fail)))); refine wpQuiet_nil ?_; rintro _ ⟨x, rfl⟩; go_wp2_with (fail))
                    go_roundw
                    case rel => exact ⟨j + 1, by omega, by go_num, by rw [HRES.out], HLi.out.latr _⟩
                    case measure => simp [intOf]; omega
                  · have y1 : (T.z == R.a) = false := by simpa using hy
                    have y2 : decide (T.z = R.a) = false := decide_eq_false hy
                    have hres : (false || (true && (decide (sz = T.z) && decide (T.z = R.a)))) = false := by rw [x2, y2]; rfl
                    have HRES := hid (HPT.out.trans hres)
                    clear hx hy hres
                    go_wp2_with (fail)
                    (refine wp_region_calm (by kernel_rfl) (by kernel_rfl) ?_; (repeat (go_big_quiet_step ((fail)))); refine wpQuiet_nil ?_; rintro _ ⟨x, rfl⟩; go_wp2_with (fail))
                    go_roundw
                    case rel => exact ⟨j + 1, by omega, by go_num, by rw [HRES.out], HLi.out.latr _⟩
                    case measure => simp [intOf]; omega
                · have x1 : (sz == T.z) = false := by simpa using hx
                  have x2 : decide (sz = T.z) = false := decide_eq_false hx
                  have hres : (false || (true && (decide (sz = T.z) && decide (T.z = R.a)))) = false := by rw [x2]; rfl
                  have HRES := hid (HPT.out.trans hres)
                  clear hx hres
                  go_wp2_with (fail)
                  (refine wp_region_calm (by kernel_rfl) (by kernel_rfl) ?_; (repeat (go_big_quiet_step ((fail)))); refine wpQuiet_nil ?_; rintro _ ⟨x, rfl⟩; go_wp2_with (fail))
                  go_roundw
                  case rel => exact ⟨j + 1, by omega, by go_num, by rw [HRES.out], HLi.out.latr _⟩
                  case measure => simp [intOf]; omega
            · go_wp2_with (fail)
              (refine wp_region_calm (by kernel_rfl) (by kernel_rfl) ?_; (repeat (go_big_quiet_step ((fail)))); refine wpQuiet_nil ?_; rintro _ ⟨x, rfl⟩; go_wp2_with (fail))
              go_roundw
              case rel => exact ⟨j + 1, by omega, by go_num, by rw [HPT.out]; rfl, HLi.out.latr _⟩
              case measure => simp [intOf]; omega
          · obtain rfl : j = el.length := by omega
            have HLw := hid (HL3.out.trans hli)
            generalize pr T.z R.a (el.take el.length) = pb at *
            (obtain ⟨hcpi0, hcpi1, hcpi2, hcpi3, hcpi4, hfpi0, hfpi1, hfpi2, hfpi3, hfpi4, hgpi⟩ := Blk.at5 (hPi))
            (obtain ⟨hcqi0, hcqi1, hcqi2, hcqi3, hcqi4, hfqi0, hfqi1, hfqi2, hfqi3, hfqi4, hgqi⟩ := Blk.at5 (hQi))
            have HPi := hid hPi
            clear hPi hQi hli
            go_wp2_with (fail)
            refine wp_region_calm (by kernel_rfl) (by kernel_rfl) ?_
            (repeat (go_big_quiet_step (fail)))
            go_big_quiet_step ((go_at_call 9; exact calm_of (H9.out _)))
            (repeat (go_big_quiet_step (fail)))
            skip
            refine wpQuiet_nil ?_
            rintro _ ⟨x, rfl⟩
            go_wp2_with (fail)
            go_roundw
            case rel => exact ⟨k + 1, by omega, by omega, by go_num, HLw.out.latr _, by rw [HGO.out]; exact HPi.out.latr _⟩
            case measure => simp [intOf]; omega
end Go.Proofs.Yteikpgahdjhhkaa
