/- CongMay: its law, and its walk, which answers true. Of events whose packets read as lists. -/
import Derived.Test.YtkmffpgejnafaaaAwake
import Derived.Test.YtkmffpgejnafaaaOpen
namespace Go.Proofs.Ytkmffpgejnafaaa
open Go.RowKit
attribute [local go_sem] ite_max ite_min
attribute [local go_sem] h_lt1 h_lt2 h_lt3 h_lt4 h_lt5 h_lt6 h_eq1 h_qe1 h_eq2 h_qe2 h_eq3 h_qe3 h_eq4 h_qe4 h_eq5 h_qe5 h_eq6 h_qe6

/-- packets that came, or were lost, or all were -/
structure Ev where
  lost : Bool
  all : Bool
  now : Int
  v : Value
  l : List Snt
def ec (e : Ev) : List Value := [.bool e.lost, .bool e.all, .int .i64 e.now, e.v]
def evs (l : List Ev) : List Value := l.flatMap ec
def go1 (e : Ev) (r : Rn) : Rn := if e.all = true then fall r else if e.lost = true then loses e.now e.l r else acks e.l r
def goE : List Ev → Rn → Rn
  | [], r => r
  | e :: l, r => goE l (go1 e r)
theorem goE_snoc (l : List Ev) (e : Ev) : ∀ r, goE (l ++ [e]) r = go1 e (goE l r) := by
  induction l with
  | nil => intro r; rfl
  | cons a l ih => intro r; exact ih _
theorem go1_low {e : Ev} {r : Rn} (h : Low r) : Low (go1 e r) := by
  unfold go1
  split
  · exact fall_low h
  · split
    · exact loses_low e.l h
    · exact (acks_low e.l h).1
theorem goE_low (l : List Ev) : ∀ {r : Rn}, Low r → Low (goE l r) := by
  induction l with
  | nil => intro r h; exact h
  | cons e l ih => intro r h; exact ih (go1_low h)
theorem goE_take (l : List Ev) (r : Rn) (k : Nat) (h : k < l.length) : goE (l.take (k + 1)) r = go1 l[k] (goE (l.take k) r) := by rw [take_succ_ l k h, goE_snoc]
theorem sum_take (l : List Snt) (k : Nat) (h : k < l.length) : sum (l.take (k + 1)) = sum (l.take k) + sz l[k] := by rw [take_succ_ l k h, sum_snoc]

/-- what is known of event number k, in whatever world came later -/
def EvAt (w : World) (b off k : Nat) (e : Ev) : Prop := ∀ X, Later w X → X.cell? ⟨b, off + k * 4, none⟩ = some (.bool e.lost) ∧ X.cell? ⟨b, off + k * 4 + 1, none⟩ = some (.bool e.all) ∧ X.cell? ⟨b, off + k * 4 + 2, none⟩ = some (.int .i64 e.now) ∧
  X.cell? ⟨b, off + k * 4 + 3, none⟩ = some e.v ∧ b < X.heap.size
theorem ev_at {w : World} {b off k : Nat} {l : List Ev} (hb : b < w.heap.size) (hc : ∀ j u, (evs l)[j]? = some u → w.cell? ⟨b, off + j, none⟩ = some u) (h : k < l.length) : EvAt w b off k l[k] := by
  have := (flatMap_at ec 4 (fun _ => rfl) l).2 k
  have a0 := this 0 h (by omega)
  have a1 := this 1 h (by omega)
  have a2 := this 2 h (by omega)
  have a3 := this 3 h (by omega)
  exact fun X hX => ⟨(hX.cell hb).trans (hc _ _ a0), (hX.cell hb).trans (hc _ _ a1), (hX.cell hb).trans (hc _ _ a2), (hX.cell hb).trans (hc _ _ a3), Nat.lt_of_lt_of_le hb hX.size⟩
def OkE (w : World) (e : Ev) : Prop := Arr w 5 e.v e.l.length (snts e.l)
/-- the window behind an event, as the law asks of it -/
theorem law_all {r : Rn} (h : Low r) : chk (fall r) = true ∧ (fall r).w ≤ r.w := by
  refine ⟨(chk_iff _).2 (fall_ok h.1), ?_⟩
  have := h.1.1.1
  unfold fall
  exact this
theorem law_lost {r : Rn} (h : Low r) (now : Int) (l : List Snt) : chk (loses now l r) = true ∧ (loses now l r).w ≤ r.w := ⟨(chk_iff _).2 (loses_ok l h.1).1, (loses_ok l h.1).2⟩
theorem law_came {r : Rn} (h : Low r) (l : List Snt) : chk (acks l r) = true ∧ r.w ≤ (acks l r).w ∧ (acks l r).w ≤ r.w + sum l ∧ (acks l r).s = r.s ∧ (acks l r).r = r.r :=
  ⟨(chk_iff _).2 (acks_ok l h.1).1, (acks_ok l h.1).2.2.2, (acks_low l h).2, (acks_ok l h.1).2.1, (acks_ok l h.1).2.2.1⟩

section
open Go.ChangeShapes Go.WideShapes Go.ChangeAt Go.Deep
variable {H : Type} {enc : TypeId × Value → H} {w : World} {base : Nat} {spare : Nat → Bool} {held : Bool}
theorem ev_of_cells (n : Nat) (cs : List Value) (y : DataW H × List MemPlace) (h : DataW.trod enc Try.prog w base spare held n 29 cs = some y) : ∃ e : Ev, OkE w e ∧ cs = ec e := by
  obtain ⟨hl, hf⟩ := fields_of Try.underlying29 (by kernel_rfl) (by kernel_rfl) h
  match cs, hl with
  | [c0, c1, c2, c3], _ =>
    obtain ⟨_, _, h0⟩ := hf 0 _ c0 rfl rfl
    obtain ⟨_, _, h1⟩ := hf 1 _ c1 rfl rfl
    obtain ⟨_, _, h2⟩ := hf 2 _ c2 rfl rfl
    obtain ⟨_, _, h3⟩ := hf 3 _ c3 rfl rfl
    obtain ⟨a0, e0, _⟩ := DataW.trod_bool Try.underlying4 h0
    obtain ⟨a1, e1, _⟩ := DataW.trod_bool Try.underlying4 h1
    obtain ⟨a2, e2, _⟩ := DataW.trod_int Try.underlying3 h2
    simp at e0 e1 e2
    have hs : ∃ (x : Option Addr) (len cap : Nat), c3 = .slice x len cap := by
      rcases open_slice Try.underlying27 h3 with ⟨hcs, _⟩ | ⟨a, l, c, m, n, D, Pl, hcs, _⟩
      · exact ⟨_, _, _, by simpa using hcs⟩
      · exact ⟨_, _, _, by simpa using hcs⟩
    obtain ⟨x, len, cap, rfl⟩ := hs
    obtain ⟨l, _, hA, rfl⟩ := snts_of h3
    exact ⟨⟨a0, a1, a2, .slice x l.length cap, l⟩, hA, by rw [e0, e1, e2]; rfl⟩
theorem evs_of {fuel len cap : Nat} {x : Option Addr} {y : DataW H × List MemPlace} (h : DataW.trod enc Try.prog w base spare held fuel 23 [.slice x len cap] = some y) :
    ∃ l : List Ev, (∀ a ∈ l, OkE w a) ∧ Arr w 4 (.slice x len cap) l.length (l.flatMap ec) ∧ len = l.length :=
  arr_of_slice (OkE w) ec 4 (fun _ => rfl) (by decide) (by kernel_rfl) Try.underlying23 h ev_of_cells
end

set_option maxHeartbeats 16000000 in
set_option maxRecDepth 100000 in
theorem may4 (v : Value) (l : List Ev) (w : World) (hv : Arr w 4 v l.length (evs l)) (hE : ∀ e ∈ l, OkE w e) : Calls Try.prog 4 #[v] w fun e w' => e = .returned (.bool true) ∧ Later w w' := by
  have HEE := hid hE
  clear hE
  rcases arr_cases hv with ⟨a, cap, rfl, h0, _, hmax⟩ | ⟨b, off, cap, rfl, hpos, hlen, hb, hcap, hmax, hcell⟩
  · obtain rfl : l = [] := List.eq_nil_of_length_eq_zero h0
    clear hv
    (go_enter Try.func4, Try.ntmps4; go_wp2_with (fail))
    (refine (awake9 _).mono ?_; rintro e w1 ⟨rfl, x1, rfl⟩; go_wp2_with (fail))
    (refine (start_is _).mono ?_; rintro e w1 ⟨rfl, x1, rfl⟩; go_wp2_with (fail))
    go_rounds 1
    go_ret
    exact ⟨rfl, by repeat (first | (with_reducible exact Later.refl _) | with_reducible apply Later.latr | with_reducible apply Later.alloc | with_reducible apply Later.drew | (with_reducible refine Later.set ?_ (by (simp; try omega)) _))⟩
  have HC := hid hcell
  clear hcell hv
  (go_enter Try.func4, Try.ntmps4; go_wp2_with (fail))
  (refine (awake9 _).mono ?_; rintro e w1 ⟨rfl, x1, rfl⟩; go_wp2_with (fail))
  refine (start_is _).later.mono ?_
  rintro e w1 ⟨rfl, hl1⟩
  have HW := hid (Later.trans (a := w) (by repeat (first | (with_reducible exact Later.refl _) | with_reducible apply Later.latr | with_reducible apply Later.alloc | with_reducible apply Later.drew | (with_reducible refine Later.set ?_ (by (simp; try omega)) _))) hl1)
  clear hl1
  have hwp : w.heap.size ≤ w1.heap.size := HW.out.size
  go_wp2_with (fail)
  have hS0 : Blk (w1.alloc (.cells #[.int .i64 2560, .int .i64 96000, .int .i64 0, .int .i64 (-1)] 25)) w1.heap.size 25 (rc start) := Blk.new _ _ _
  have HS0 := hid hS0
  have HW1 := hid (HW.out.alloc (.cells #[.int .i64 2560, .int .i64 96000, .int .i64 0, .int .i64 (-1)] 25))
  clear hS0
  generalize w1.heap.size = p at *
  go_loopw [5] (fun i wr => ∃ k : Nat, k ≤ l.length ∧ k ≤ 50 ∧ i = .int .i64 k ∧ Later w wr ∧ Blk wr p 25 (rc (goE (l.take k) start))) (fun i _ => l.length - (intOf i).toNat)
  case atStart => exact ⟨0, Nat.zero_le _, by omega, rfl, HW1.out, HS0.out⟩
  case round =>
    obtain ⟨k, hk, hk50, rfl, hl, hB⟩ := hrel
    by_cases hstop : k < l.length ∧ k < 50
    rotate_left
    · have HL := hid hl
      clear hl hB
      by_cases hlt : k < l.length
      · have h50 : ¬ k < 50 := fun h => hstop ⟨hlt, h⟩
        clear hstop
        go_wp2_with (fail)
        go_ret
        exact ⟨rfl, by repeat (first | (with_reducible exact Later.refl _) | (with_reducible exact HL.out) | with_reducible apply Later.latr | with_reducible apply Later.alloc | with_reducible apply Later.drew | (with_reducible refine Later.set ?_ (by (simp; try omega)) _))⟩
      · clear hstop
        go_wp2_with (fail)
        go_ret
        exact ⟨rfl, by repeat (first | (with_reducible exact Later.refl _) | (with_reducible exact HL.out) | with_reducible apply Later.latr | with_reducible apply Later.alloc | with_reducible apply Later.drew | (with_reducible refine Later.set ?_ (by (simp; try omega)) _))⟩
    obtain ⟨hlt, h50⟩ := hstop
    have hgo := goE_take l start k hlt
    have hlow := goE_low (l.take k) low_start
    have hev := ev_at hb HC.out hlt
    have hok := HEE.out l[k] (List.getElem_mem hlt)
    generalize goE (l.take k) start = R at *
    generalize l[k] = e at *
    have HGO := hid hgo
    have HE := hid hev
    have HAr := hid hok
    clear hgo hev
    have hqp : wr.heap.size ≠ p := by have := hB.lt; omega
    (obtain ⟨hca0, hca1, hca2, hca3, hfa0, hfa1, hfa2, hfa3, hga⟩ := Blk.at4 (hB))
    obtain ⟨c0, c1, c2, c3, cb⟩ := HE.out _ hl
    have hel := HAr.out.later hl
    have HL := hid hl
    have HB := hid hB
    have HLOW := hid hlow
    clear hl hB hlow hok
    obtain ⟨elost, eall, enow, ev, el⟩ := e
    dsimp only at *
    obtain ⟨helen, ea, ecap, rfl, hec1, hec2, hecell⟩ := hel
    unfold maxLen at hec2
    have HECELL := hid hecell
    clear hecell helen
    by_cases hm50 : el.length ≤ 50
    rotate_left
    · have hd : decide (50 < (el.length : Int)) = true := decide_eq_true (by omega)
      go_wp2_with (fail)
      go_ret
      exact ⟨rfl, by repeat (first | (with_reducible exact Later.refl _) | (with_reducible exact HL.out) | with_reducible apply Later.latr | with_reducible apply Later.alloc | with_reducible apply Later.drew | (with_reducible refine Later.set ?_ (by (simp; try omega)) _))⟩
    have hd : decide (50 < (el.length : Int)) = false := decide_eq_false (by omega)
    go_wp2_with (fail)
    go_loop [6, 7] (fun sm j => ∃ m : Nat, m ≤ el.length ∧ j = .int .i64 m ∧ sm = .int .i64 (sum (el.take m))) (fun _ j => el.length - (intOf j).toNat)
    case atStart => exact ⟨0, Nat.zero_le _, rfl, rfl⟩
    case round =>
      obtain ⟨m, hm, rfl, rfl⟩ := hrel
      have hsb := sum_bd (el.take m)
      rw [List.length_take] at hsb
      by_cases hml : m < el.length
      · have hst := sum_take el m hml
        obtain ⟨b2, off2, rfl, hb2, hc2⟩ := HECELL.out (by omega)
        have g2 : wr.cell? ⟨b2, off2 + m * 5 + 2, none⟩ = some (.int .i64 el[m].z) := hc2 _ _ (snts_at el m hml).2.2.1
        clear hc2
        have HST := hid hst
        clear hst
        generalize sum (el.take m) = sm at *
        unfold sz at HST
        generalize el[m].z = z at *
        go_wp2_with (fail)
        go_round
        case rel => exact ⟨m + 1, by omega, by go_num, by rw [HST.out]⟩
        case measure => simp [intOf]; omega
      · obtain rfl : m = el.length := by omega
        rw [List.take_length] at *
        have h14 := check14
        obtain ⟨⟨⟨r1, r2⟩, ⟨r3, r4⟩, ⟨r5, r6⟩, r7, r8⟩, r9⟩ := HLOW.out
        have hqp' : p ≠ wr.heap.size := Ne.symm hqp
        cases eall
        · cases elost
          · have h13 := fun W (h : Arr W 5 (.slice ea el.length ecap) el.length (snts el)) => acked13 R (.slice ea el.length ecap) el W h
            rw [of_ok HLOW.out.1] at h13
            have hg : go1 { lost := false, all := false, now := enow, v := .slice ea el.length ecap, l := el } R = acks el R := rfl
            rw [hg] at HGO
            obtain ⟨y1, y2, y3, y4, y5⟩ := law_came HLOW.out el
            have hc14 := check14 (acks el R)
            rw [y1] at hc14
            generalize acks el R = T at *
            obtain ⟨tw, ts, tc, tr⟩ := T
            dsimp only at y2 y3 y4 y5 hc14 h13
            subst y4 y5
            obtain ⟨T, hT⟩ : ∃ T : Rn, T = { w := tw, s := R.s, c := tc, r := R.r } := ⟨_, rfl⟩
            obtain rfl : tw = T.w := by rw [hT]
            obtain rfl : tc = T.c := by rw [hT]
            have HT := hid hT
            have H13 := hid h13
            have H14 := hid hc14
            clear h13 hc14 hg y1 h14 hT
            generalize sum el = S at *
            have d1 : decide (T.w < R.w) = false := decide_eq_false (by omega)
            have d2 : decide (R.w + S < T.w) = false := decide_eq_false (by omega)
            go_wp2_with (fail)
            refine wp_region_calm_tail 7 (by kernel_rfl) (by kernel_rfl) ?_
            simp only [List.take_succ_cons, List.take_zero, List.drop_succ_cons, List.drop_zero]
            (repeat (go_big_quiet_step (fail)))
            go_big_quiet_step ((go_at_call 13; exact calm_of (H13.out _ (HAr.out.later (HL.out.trans (((Later.refl _).alloc _).trans (latr_later _ _)))))))
            (repeat (go_big_quiet_step (fail)))
            refine wpQuiet_nil ?_
            rintro W2 hW2
            replace hW2 := later_of hW2
            have HQ2 := hid ((Blk.new wr 25 #[.int .i64 R.w, .int .i64 R.s, .int .i64 R.c, .int .i64 R.r]).later hW2)
            have HP2 := hid ((HB.out.alloc (.cells #[.int .i64 R.w, .int .i64 R.s, .int .i64 R.c, .int .i64 R.r] 25)).later hW2)
            have HL2 := hid ((HL.out.alloc (.cells #[.int .i64 R.w, .int .i64 R.s, .int .i64 R.c, .int .i64 R.r] 25)).trans hW2)
            clear hW2
            (obtain ⟨hcp0, hcp1, hcp2, hcp3, hfp0, hfp1, hfp2, hfp3, hgp⟩ := Blk.at4 (HP2.out))
            go_wp2_with (fail)
            refine (H14.out _).later.mono ?_
            rintro e W3 ⟨rfl, hW3⟩
            have HP3 := hid (((((HP2.out.set_ 0 (.int .i64 (T.w))).set_ 1 (.int .i64 (R.s))).set_ 2 (.int .i64 (T.c))).set_ 3 (.int .i64 (R.r))).later hW3 : Blk W3 p 25 #[.int .i64 (T.w), .int .i64 (R.s), .int .i64 (T.c), .int .i64 (R.r)])
            have HQ3 := hid (((((HQ2.out.far (p := ⟨p, 0, none⟩) hqp (.int .i64 (T.w))).far (p := ⟨p, 1, none⟩) hqp (.int .i64 (R.s))).far (p := ⟨p, 2, none⟩) hqp (.int .i64 (T.c))).far (p := ⟨p, 3, none⟩) hqp (.int .i64 (R.r))).later hW3)
            have HL3 := hid (((((HL2.out.set (p := ⟨p, 0, none⟩) hwp (.int .i64 (T.w))).set (p := ⟨p, 1, none⟩) hwp (.int .i64 (R.s))).set (p := ⟨p, 2, none⟩) hwp (.int .i64 (T.c))).set (p := ⟨p, 3, none⟩) hwp (.int .i64 (R.r))).trans hW3)
            clear hW3
            (obtain ⟨hcr0, hcr1, hcr2, hcr3, hfr0, hfr1, hfr2, hfr3, hgr⟩ := Blk.at4 (HP3.out))
            (obtain ⟨hcs0, hcs1, hcs2, hcs3, hfs0, hfs1, hfs2, hfs3, hgs⟩ := Blk.at4 (HQ3.out))
            obtain ⟨f0, f1, f2, f3, fb⟩ := HE.out _ HL3.out
            go_wp2_with (fail)
            go_roundw
            case rel => exact ⟨k + 1, by omega, by omega, by go_num, HL3.out, by rw [HGO.out]; exact HP3.out⟩
            case measure => simp [intOf]; omega
          · have h12 := fun W (h : Arr W 5 (.slice ea el.length ecap) el.length (snts el)) => lost12 R enow (.slice ea el.length ecap) el W h
            rw [of_ok HLOW.out.1] at h12
            have hg : go1 { lost := true, all := false, now := enow, v := .slice ea el.length ecap, l := el } R = loses enow el R := rfl
            rw [hg] at HGO
            obtain ⟨y1, y2⟩ := law_lost HLOW.out enow el
            have hc14 := check14 (loses enow el R)
            rw [y1] at hc14
            generalize loses enow el R = T at *
            have H12 := hid h12
            have H14 := hid hc14
            clear h12 hc14 hg y1 h14
            have d1 : decide (R.w < T.w) = false := decide_eq_false (by omega)
            go_wp2_with (fail)
            refine wp_region_calm_tail 12 (by kernel_rfl) (by kernel_rfl) ?_
            simp only [List.take_succ_cons, List.take_zero, List.drop_succ_cons, List.drop_zero]
            (repeat (go_big_quiet_step (fail)))
            go_big_quiet_step ((go_at_call 12; exact calm_of (H12.out _ (HAr.out.later (HL.out.trans (((Later.refl _).alloc _).trans (latr_later _ _)))))))
            (repeat (go_big_quiet_step (fail)))
            refine wpQuiet_nil ?_
            rintro W2 hW2
            replace hW2 := later_of hW2
            have HQ2 := hid ((Blk.new wr 25 #[.int .i64 R.w, .int .i64 R.s, .int .i64 R.c, .int .i64 R.r]).later hW2)
            have HP2 := hid ((HB.out.alloc (.cells #[.int .i64 R.w, .int .i64 R.s, .int .i64 R.c, .int .i64 R.r] 25)).later hW2)
            have HL2 := hid ((HL.out.alloc (.cells #[.int .i64 R.w, .int .i64 R.s, .int .i64 R.c, .int .i64 R.r] 25)).trans hW2)
            clear hW2
            (obtain ⟨hcp0, hcp1, hcp2, hcp3, hfp0, hfp1, hfp2, hfp3, hgp⟩ := Blk.at4 (HP2.out))
            go_wp2_with (fail)
            refine (H14.out _).later.mono ?_
            rintro e W3 ⟨rfl, hW3⟩
            have HP3 := hid (((((HP2.out.set_ 0 (.int .i64 (T.w))).set_ 1 (.int .i64 (T.s))).set_ 2 (.int .i64 (T.c))).set_ 3 (.int .i64 (T.r))).later hW3 : Blk W3 p 25 #[.int .i64 (T.w), .int .i64 (T.s), .int .i64 (T.c), .int .i64 (T.r)])
            have HQ3 := hid (((((HQ2.out.far (p := ⟨p, 0, none⟩) hqp (.int .i64 (T.w))).far (p := ⟨p, 1, none⟩) hqp (.int .i64 (T.s))).far (p := ⟨p, 2, none⟩) hqp (.int .i64 (T.c))).far (p := ⟨p, 3, none⟩) hqp (.int .i64 (T.r))).later hW3)
            have HL3 := hid (((((HL2.out.set (p := ⟨p, 0, none⟩) hwp (.int .i64 (T.w))).set (p := ⟨p, 1, none⟩) hwp (.int .i64 (T.s))).set (p := ⟨p, 2, none⟩) hwp (.int .i64 (T.c))).set (p := ⟨p, 3, none⟩) hwp (.int .i64 (T.r))).trans hW3)
            clear hW3
            (obtain ⟨hcr0, hcr1, hcr2, hcr3, hfr0, hfr1, hfr2, hfr3, hgr⟩ := Blk.at4 (HP3.out))
            (obtain ⟨hcs0, hcs1, hcs2, hcs3, hfs0, hfs1, hfs2, hfs3, hgs⟩ := Blk.at4 (HQ3.out))
            obtain ⟨f0, f1, f2, f3, fb⟩ := HE.out _ HL3.out
            go_wp2_with (fail)
            go_roundw
            case rel => exact ⟨k + 1, by omega, by omega, by go_num, HL3.out, by rw [HGO.out]; exact HP3.out⟩
            case measure => simp [intOf]; omega
        · have h11 := fall11 R
          rw [of_ok HLOW.out.1] at h11
          have hg : go1 { lost := elost, all := true, now := enow, v := .slice ea el.length ecap, l := el } R = fall R := rfl
          rw [hg] at HGO
          obtain ⟨y1, y2⟩ := law_all HLOW.out
          have hc14 := check14 (fall R)
          rw [y1] at hc14
          generalize fall R = T at *
          have H11 := hid h11
          have H14 := hid hc14
          clear h11 hc14 hg y1 h14
          have d1 : decide (R.w < T.w) = false := decide_eq_false (by omega)
          cases elost
          · have tok : True := trivial
            go_wp2_with (fail)
            refine (H11.out _).later.mono ?_
            rintro e W2 ⟨rfl, hW2⟩
            have HQ2 := hid ((Blk.new wr 25 #[.int .i64 R.w, .int .i64 R.s, .int .i64 R.c, .int .i64 R.r]).later hW2)
            have HP2 := hid ((HB.out.alloc (.cells #[.int .i64 R.w, .int .i64 R.s, .int .i64 R.c, .int .i64 R.r] 25)).later hW2)
            have HL2 := hid ((HL.out.alloc (.cells #[.int .i64 R.w, .int .i64 R.s, .int .i64 R.c, .int .i64 R.r] 25)).trans hW2)
            clear hW2
            (obtain ⟨hcp0, hcp1, hcp2, hcp3, hfp0, hfp1, hfp2, hfp3, hgp⟩ := Blk.at4 (HP2.out))
            go_wp2_with (fail)
            refine (H14.out _).later.mono ?_
            rintro e W3 ⟨rfl, hW3⟩
            have HP3 := hid (((((HP2.out.set_ 0 (.int .i64 (T.w))).set_ 1 (.int .i64 (T.s))).set_ 2 (.int .i64 (T.c))).set_ 3 (.int .i64 (T.r))).later hW3 : Blk W3 p 25 #[.int .i64 (T.w), .int .i64 (T.s), .int .i64 (T.c), .int .i64 (T.r)])
            have HQ3 := hid (((((HQ2.out.far (p := ⟨p, 0, none⟩) hqp (.int .i64 (T.w))).far (p := ⟨p, 1, none⟩) hqp (.int .i64 (T.s))).far (p := ⟨p, 2, none⟩) hqp (.int .i64 (T.c))).far (p := ⟨p, 3, none⟩) hqp (.int .i64 (T.r))).later hW3)
            have HL3 := hid (((((HL2.out.set (p := ⟨p, 0, none⟩) hwp (.int .i64 (T.w))).set (p := ⟨p, 1, none⟩) hwp (.int .i64 (T.s))).set (p := ⟨p, 2, none⟩) hwp (.int .i64 (T.c))).set (p := ⟨p, 3, none⟩) hwp (.int .i64 (T.r))).trans hW3)
            clear hW3
            (obtain ⟨hcr0, hcr1, hcr2, hcr3, hfr0, hfr1, hfr2, hfr3, hgr⟩ := Blk.at4 (HP3.out))
            (obtain ⟨hcs0, hcs1, hcs2, hcs3, hfs0, hfs1, hfs2, hfs3, hgs⟩ := Blk.at4 (HQ3.out))
            obtain ⟨f0, f1, f2, f3, fb⟩ := HE.out _ HL3.out
            go_wp2_with (fail)
            go_roundw
            case rel => exact ⟨k + 1, by omega, by omega, by go_num, HL3.out, by rw [HGO.out]; exact HP3.out⟩
            case measure => simp [intOf]; omega
          · have tok : True := trivial
            go_wp2_with (fail)
            refine (H11.out _).later.mono ?_
            rintro e W2 ⟨rfl, hW2⟩
            have HQ2 := hid ((Blk.new wr 25 #[.int .i64 R.w, .int .i64 R.s, .int .i64 R.c, .int .i64 R.r]).later hW2)
            have HP2 := hid ((HB.out.alloc (.cells #[.int .i64 R.w, .int .i64 R.s, .int .i64 R.c, .int .i64 R.r] 25)).later hW2)
            have HL2 := hid ((HL.out.alloc (.cells #[.int .i64 R.w, .int .i64 R.s, .int .i64 R.c, .int .i64 R.r] 25)).trans hW2)
            clear hW2
            (obtain ⟨hcp0, hcp1, hcp2, hcp3, hfp0, hfp1, hfp2, hfp3, hgp⟩ := Blk.at4 (HP2.out))
            go_wp2_with (fail)
            refine (H14.out _).later.mono ?_
            rintro e W3 ⟨rfl, hW3⟩
            have HP3 := hid (((((HP2.out.set_ 0 (.int .i64 (T.w))).set_ 1 (.int .i64 (T.s))).set_ 2 (.int .i64 (T.c))).set_ 3 (.int .i64 (T.r))).later hW3 : Blk W3 p 25 #[.int .i64 (T.w), .int .i64 (T.s), .int .i64 (T.c), .int .i64 (T.r)])
            have HQ3 := hid (((((HQ2.out.far (p := ⟨p, 0, none⟩) hqp (.int .i64 (T.w))).far (p := ⟨p, 1, none⟩) hqp (.int .i64 (T.s))).far (p := ⟨p, 2, none⟩) hqp (.int .i64 (T.c))).far (p := ⟨p, 3, none⟩) hqp (.int .i64 (T.r))).later hW3)
            have HL3 := hid (((((HL2.out.set (p := ⟨p, 0, none⟩) hwp (.int .i64 (T.w))).set (p := ⟨p, 1, none⟩) hwp (.int .i64 (T.s))).set (p := ⟨p, 2, none⟩) hwp (.int .i64 (T.c))).set (p := ⟨p, 3, none⟩) hwp (.int .i64 (T.r))).trans hW3)
            clear hW3
            (obtain ⟨hcr0, hcr1, hcr2, hcr3, hfr0, hfr1, hfr2, hfr3, hgr⟩ := Blk.at4 (HP3.out))
            (obtain ⟨hcs0, hcs1, hcs2, hcs3, hfs0, hfs1, hfs2, hfs3, hgs⟩ := Blk.at4 (HQ3.out))
            obtain ⟨f0, f1, f2, f3, fb⟩ := HE.out _ HL3.out
            go_wp2_with (fail)
            go_roundw
            case rel => exact ⟨k + 1, by omega, by omega, by go_num, HL3.out, by rw [HGO.out]; exact HP3.out⟩
            case measure => simp [intOf]; omega
end Go.Proofs.Ytkmffpgejnafaaa
