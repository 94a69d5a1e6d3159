/- The walks of the reference's Acked and Lost. No condition. -/
import Derived.Test.YtkmffpgejnafaaaAcked
import Derived.Test.YtkmffpgejnafaaaMay
namespace Go.Proofs.Ytkmffpgejnafaaa
open Go.RowKit
attribute [local go_sem] ite_max ite_min
attribute [local go_sem] h_lt1 h_lt2 h_lt3 h_lt4 h_lt5 h_lt6 h_eq1 h_qe1 h_eq2 h_qe2 h_eq3 h_qe3 h_eq4 h_qe4 h_eq5 h_qe5 h_eq6 h_qe6

def cap_ : Rn → Rn := cap
theorem cap_hi {q : Rn} (h : 96000 < q.w) : cap_ q = { w := 96000, s := q.s, c := 0, r := q.r } := by unfold cap_ cap; rw [if_pos h]
theorem cap_lo {q : Rn} (h : ¬ 96000 < q.w) : cap_ q = q := by unfold cap_ cap; rw [if_neg h]
/-- what is known of element number k, in whatever world came later -/
def El (w : World) (b off k : Nat) (s : Snt) : Prop := ∀ X, Later w X → X.cell? ⟨b, off + k * 5, none⟩ = some (.int .i64 s.k) ∧ X.cell? ⟨b, off + k * 5 + 1, none⟩ = some (.int .i64 s.t) ∧ X.cell? ⟨b, off + k * 5 + 2, none⟩ = some (.int .i64 s.z) ∧
  X.cell? ⟨b, off + k * 5 + 3, none⟩ = some (.bool s.e) ∧ X.cell? ⟨b, off + k * 5 + 4, none⟩ = some (.bool s.p) ∧ b < X.heap.size
theorem el_of {w : World} {b off k : Nat} {l : List Snt} (hb : b < w.heap.size) (hc : ∀ j u, (snts l)[j]? = some u → w.cell? ⟨b, off + j, none⟩ = some u) (h : k < l.length) : El w b off k l[k] := by
  obtain ⟨a0, a1, a2, a3, a4⟩ := snts_at l k h
  exact fun X hX => ⟨(hX.cell hb).trans (hc _ _ a0), (hX.cell hb).trans (hc _ _ a1), (hX.cell hb).trans (hc _ _ a2), (hX.cell hb).trans (hc _ _ a3), (hX.cell hb).trans (hc _ _ a4), Nat.lt_of_lt_of_le hb hX.size⟩

set_option maxHeartbeats 8000000 in
theorem acked18 (r : Rn) (v : Value) (l : List Snt) (w : World) (hv : Arr w 5 v l.length (snts l)) : Gives Try.prog 18 #[rv r, v] w (rv (acks l (ofR r))) := by
  apply gives_of
  have ho := of28 r
  have hq := ok_of r
  generalize ofR r = q at *
  have HO := hid ho
  have HQ := hid hq
  clear ho hq
  rcases arr_cases hv with ⟨a, cap, rfl, h0, _, hmax⟩ | ⟨b, off, cap, rfl, hpos, hlen, hb, hcap, hmax, hcell⟩
  · obtain rfl : l = [] := List.eq_nil_of_length_eq_zero h0
    clear hv
    (go_enter Try.func18, Try.ntmps18; go_wp2_with (fail))
    (refine (HO.out _).mono ?_; rintro e w1 ⟨rfl, x1, rfl⟩; go_wp2_with (fail))
    go_rounds 1
    go_returns
    exact ⟨rfl, by repeat (first | (with_reducible exact Later.refl _) | with_reducible apply Later.latr | with_reducible apply Later.alloc | with_reducible apply Later.drew | (with_reducible refine Later.set ?_ (by (simp; try omega)) _))⟩
  have HC := hid hcell
  clear hcell hv
  (go_enter Try.func18, Try.ntmps18; go_wp2_with (fail))
  refine (HO.out _).later.mono ?_
  rintro e w1 ⟨rfl, hl1⟩
  have HW := hid (Later.trans (a := w) (by repeat (first | (with_reducible exact Later.refl _) | with_reducible apply Later.latr | with_reducible apply Later.alloc | with_reducible apply Later.drew | (with_reducible refine Later.set ?_ (by (simp; try omega)) _))) hl1)
  have HR1 := hid ((blk_new (by simp) : Blk _ (w.heap.size + 1) 25 #[.int .i64 0, .int .i64 0, .int .i64 0, .int .i64 0]).later hl1)
  have HLT := hid hl1.size
  clear hl1
  go_wp2_with (fail)
  go_loopw [6] (fun i wr => ∃ k : Nat, k ≤ l.length ∧ i = .int .i64 k ∧ Later w wr ∧ Blk wr (w.heap.size + 1) 25 #[.int .i64 0, .int .i64 0, .int .i64 0, .int .i64 0] ∧ Blk wr w1.heap.size 25 (rc (acks (l.take k) q))) (fun i _ => l.length - (intOf i).toNat)
  case atStart => exact ⟨0, Nat.zero_le _, rfl, HW.out.alloc _, HR1.out.alloc _, Blk.new _ _ _⟩
  case round =>
    obtain ⟨k, hk, rfl, hl, hR, hB⟩ := hrel
    have hlt1 : w.heap.size + 2 ≤ w1.heap.size := by have := HLT.out; simpa using this
    generalize w1.heap.size = g at *
    have HG := hid hlt1
    clear hlt1
    by_cases hlt : k < l.length
    · have HE := hid (el_of hb HC.out hlt)
      have hat := hid (acks_take l q k hlt)
      have hok := hid (acks_ok (l.take k) HQ.out).1
      generalize acks (l.take k) q = p at *
      generalize l[k] = s at *
      have hcb : cnt p s = true → _ := cnt_bd
      have HAK : Hid (acks (l.take (k + 1)) q = if cnt p s = true then cap_ (gr p s.z) else p) := hid (by rw [hat.out]; rfl)
      clear hat
      have hc := counted29 s
      have hcn : cnt p s = (cnt0 s && decide (p.r < s.t)) := rfl
      generalize cnt p s = cm at *
      generalize cnt0 s = m at *
      have HCN := hid hc
      have HCB := hid hcb
      clear hc hcb
      have HL := hid hl
      have HR := hid hR
      have HB := hid hB
      (obtain ⟨hca0, hca1, hca2, hca3, hfa0, hfa1, hfa2, hfa3, hga⟩ := Blk.at4 (hB))
      obtain ⟨c0, c1, c2, c3, c4, cb⟩ := HE.out _ hl
      clear hl hR hB
      cases m
      · obtain rfl : cm = false := hcn
        go_wp2_with (fail)
        (refine (HCN.out _).mono ?_; rintro e w1 ⟨rfl, x1, rfl⟩; go_wp2_with (fail))
        (refine wp_region_calm (by kernel_rfl) (by kernel_rfl) ?_; (repeat (go_big_quiet_step ((fail)))); refine wpQuiet_nil ?_; rintro _ ⟨x, rfl⟩; go_wp2_with (fail))
        go_roundw
        case rel => exact ⟨k + 1, by omega, by go_num, by repeat (first | (with_reducible exact Later.refl _) | (with_reducible exact HL.out) | with_reducible apply Later.latr | with_reducible apply Later.alloc | with_reducible apply Later.drew | (with_reducible refine Later.set ?_ (by (simp; try omega)) _)), (HR.out.latr _).latr _, by rw [HAK.out, if_neg (by decide)]; exact (HB.out.latr _).latr _⟩
        case measure => simp [intOf]; omega
      go_wp2_with (fail)
      refine (HCN.out _).later.mono ?_
      rintro e w2 ⟨rfl, hl2⟩
      have HL2 := hid (HL.out.trans hl2)
      have HB2 := hid (HB.out.later hl2)
      have HW2 := hid ((wr_refl wr g).later hl2)
      (obtain ⟨hcb0, hcb1, hcb2, hcb3, hfb0, hfb1, hfb2, hfb3, hgb⟩ := Blk.at4 (HB2.out))
      obtain ⟨d0, d1, d2, d3, d4, db⟩ := HE.out _ HL2.out
      clear hl2
      by_cases hrt : p.r < s.t
      rotate_left
      · obtain rfl : cm = false := by rw [hcn, decide_eq_false hrt]; rfl
        clear hcn
        have hd : decide (s.t ≤ p.r) = true := decide_eq_true (by omega)
        go_wp2_with (fail)
        (refine wp_region_calm (by kernel_rfl) (by kernel_rfl) ?_; (repeat (go_big_quiet_step ((fail)))); refine wpQuiet_nil ?_; rintro W3 hW3; replace hW3 := later_of hW3)
        have HL3 := hid (HL2.out.trans hW3)
        have HB3 := hid (HB2.out.later hW3)
        have HR3 := hid ((HW2.out.later hW3).blk HR.out (by have := HG.out; omega))
        clear hW3
        go_wp2_with (fail)
        go_roundw
        case rel => exact ⟨k + 1, by omega, by go_num, HL3.out, HR3.out, by rw [HAK.out, if_neg (by decide)]; exact HB3.out⟩
        case measure => simp [intOf]; omega
      obtain rfl : cm = true := by rw [hcn, decide_eq_true hrt]; rfl
      clear hcn
      obtain ⟨_, ⟨z1, z2⟩, _⟩ := HCB.out rfl
      have hd : decide (s.t ≤ p.r) = false := decide_eq_false (by omega)
      have HP := hid (gr_bd hok.out z1 z2)
      obtain ⟨⟨p1, p2⟩, ⟨s1, s2⟩, ⟨y1, y2⟩, _⟩ := hok.out
      obtain ⟨pw, ps, pc, pt⟩ := p
      dsimp only at *
      go_wp2_with (fail)
      (refine wp_region_calm (by kernel_rfl) (by kernel_rfl) ?_; (repeat (go_big_quiet_step ((fail)))); refine wpQuiet_nil ?_; rintro W3 hW3; replace hW3 := later_of hW3)
      have HL3 := hid (HL2.out.trans hW3)
      have HB3 := hid (HB2.out.later hW3)
      have HW3 := hid (HW2.out.later hW3)
      (obtain ⟨hcc0, hcc1, hcc2, hcc3, hfc0, hfc1, hfc2, hfc3, hgc⟩ := Blk.at4 (HB3.out))
      obtain ⟨e0, e1, e2, e3, e4, eb⟩ := HE.out _ HL3.out
      clear hW3
      by_cases h1 : pw < ps
      · have hgr : gr { w := pw, s := ps, c := pc, r := pt } s.z = { w := pw + s.z, s := ps, c := pc, r := pt } := by unfold gr; rw [if_pos h1]
        rw [hgr] at HP HAK
        clear hgr
        have q1 : IntKind.i64.wrap (pw + s.z) = pw + s.z := IntWalk.i64_in _ (by omega)
        have hd1 : decide (pw < ps) = true := decide_eq_true h1
        go_wp2_with (fail)
        (refine wp_region_calm_tail 9 (by kernel_rfl) (by kernel_rfl) ?_; simp only [List.take_succ_cons, List.take_zero, List.drop_succ_cons, List.drop_zero]; (repeat (go_big_quiet_step ((fail)))); refine wpQuiet_nil ?_; rintro W4 hW4; replace hW4 := later_of hW4)
        have HL4 := hid (HL3.out.trans hW4)
        have HB4 := hid (HB3.out.later hW4)
        have HW4 := hid (HW3.out.later hW4)
        (obtain ⟨hcd0, hcd1, hcd2, hcd3, hfd0, hfd1, hfd2, hfd3, hgd⟩ := Blk.at4 (HB4.out))
        clear hW4
        by_cases h2 : 96000 < pw + s.z
        · have hcap : cap_ { w := pw + s.z, s := ps, c := pc, r := pt } = { w := 96000, s := ps, c := 0, r := pt } := cap_hi h2
          have hd2 : decide (96000 < pw + s.z) = true := decide_eq_true h2
          have HCAP := hid hcap
          clear hcap
          go_wp2_with (fail)
          go_roundw
          case rel =>
            have HWf := hid ((((HW4.out.set 0 (.int .i64 (pw + s.z))).set 0 (.int .i64 96000)).set 2 (.int .i64 0)))
            exact ⟨k + 1, by omega, by go_num, HL.out.wr HWf.out (by have := HG.out; omega), HWf.out.blk HR.out (by have := HG.out; omega), by (rw [HAK.out]; (first | rw [if_pos rfl] | rw [if_pos trivial]); rw [HCAP.out]; exact ((HB4.out.set_ 0 _).set_ 0 _).set_ 2 _)⟩
          case measure => simp [intOf]; omega
        · have hcap : cap_ { w := pw + s.z, s := ps, c := pc, r := pt } = { w := pw + s.z, s := ps, c := pc, r := pt } := cap_lo h2
          have hd2 : decide (96000 < pw + s.z) = false := decide_eq_false h2
          have HCAP := hid hcap
          clear hcap
          go_wp2_with (fail)
          go_roundw
          case rel =>
            have HWf := hid (HW4.out.set 0 (.int .i64 (pw + s.z)))
            exact ⟨k + 1, by omega, by go_num, HL.out.wr HWf.out (by have := HG.out; omega), HWf.out.blk HR.out (by have := HG.out; omega), by (rw [HAK.out]; (first | rw [if_pos rfl] | rw [if_pos trivial]); rw [HCAP.out]; exact HB4.out.set_ 0 _)⟩
          case measure => simp [intOf]; omega
      · have hgr : gr { w := pw, s := ps, c := pc, r := pt } s.z = { w := pw + (pc + 256 * s.z) / pw, s := ps, c := (pc + 256 * s.z) % pw, r := pt } := by unfold gr; rw [if_neg h1]
        rw [hgr] at HP HAK
        clear hgr
        have hd1 : decide (pw < ps) = false := decide_eq_false h1
        have hne : pw ≠ 0 := by omega
        have t1 : (pc + 256 * s.z).tdiv pw = (pc + 256 * s.z) / pw := Int.tdiv_eq_ediv_of_nonneg (by omega)
        have t2 : (pc + 256 * s.z).tmod pw = (pc + 256 * s.z) % pw := Int.tmod_eq_emod_of_nonneg (by omega)
        obtain ⟨g1, g2, _, _, ⟨g3, g4⟩, _⟩ := HP.out
        dsimp only at g1 g2 g3 g4
        have t0 : IntKind.i64.wrap (256 * s.z) = 256 * s.z := IntWalk.i64_in _ (by omega)
        have t0' : IntKind.i64.wrap (pc + 256 * s.z) = pc + 256 * s.z := IntWalk.i64_in _ (by omega)
        have hB0 : 0 ≤ (pc + 256 * s.z) / pw := Int.ediv_nonneg (by omega) (by omega)
        generalize hC : pc + 256 * s.z = C at *
        have HCC := hid hC
        clear hC
        generalize C / pw = D at *
        generalize C % pw = E at *
        have t3 : IntKind.i64.wrap D = D := IntWalk.i64_in _ (by omega)
        have t4 : IntKind.i64.wrap E = E := IntWalk.i64_in _ (by omega)
        have t5 : IntKind.i64.wrap (pw + D) = pw + D := IntWalk.i64_in _ (by omega)
        have hCC := HCC.out
        go_wp2_with (fail)
        (refine wp_region_calm (by kernel_rfl) (by kernel_rfl) ?_; (repeat (go_big_quiet_step ((fail)))); refine wpQuiet_nil ?_; rintro W4 hW4; replace hW4 := later_of hW4)
        have HL4 := hid (HL3.out.trans hW4)
        have HB4 := hid (HB3.out.later hW4)
        have HW4 := hid (HW3.out.later hW4)
        (obtain ⟨hcd0, hcd1, hcd2, hcd3, hfd0, hfd1, hfd2, hfd3, hgd⟩ := Blk.at4 (HB4.out))
        clear hW4
        go_wp2_with (fail)
        (refine wp_region_calm_tail 8 (by kernel_rfl) (by kernel_rfl) ?_; simp only [List.take_succ_cons, List.take_zero, List.drop_succ_cons, List.drop_zero]; (repeat (go_big_quiet_step ((fail)))); refine wpQuiet_nil ?_; rintro W5 hW5; replace hW5 := later_of hW5)
        have HB5 := hid ((HB4.out.set_ 2 (.int .i64 E)).later hW5)
        have HW5 := hid ((HW4.out.set 2 (.int .i64 E)).later hW5)
        (obtain ⟨hce0, hce1, hce2, hce3, hfe0, hfe1, hfe2, hfe3, hge⟩ := Blk.at4 (HB5.out))
        clear hW5
        by_cases h2 : 96000 < pw + D
        · have hcap : cap_ { w := pw + D, s := ps, c := E, r := pt } = { w := 96000, s := ps, c := 0, r := pt } := cap_hi h2
          have hd2 : decide (96000 < pw + D) = true := decide_eq_true h2
          have HCAP := hid hcap
          clear hcap
          go_wp2_with (fail)
          go_roundw
          case rel =>
            have HWf := hid ((((HW5.out.set 0 (.int .i64 (pw + D))).set 0 (.int .i64 96000)).set 2 (.int .i64 0)))
            exact ⟨k + 1, by omega, by go_num, HL.out.wr HWf.out (by have := HG.out; omega), HWf.out.blk HR.out (by have := HG.out; omega), by (rw [HAK.out]; (first | rw [if_pos rfl] | rw [if_pos trivial]); rw [HCAP.out]; exact ((HB5.out.set_ 0 _).set_ 0 _).set_ 2 _)⟩
          case measure => simp [intOf]; omega
        · have hcap : cap_ { w := pw + D, s := ps, c := E, r := pt } = { w := pw + D, s := ps, c := E, r := pt } := cap_lo h2
          have hd2 : decide (96000 < pw + D) = false := decide_eq_false h2
          have HCAP := hid hcap
          clear hcap
          go_wp2_with (fail)
          go_roundw
          case rel =>
            have HWf := hid (HW5.out.set 0 (.int .i64 (pw + D)))
            exact ⟨k + 1, by omega, by go_num, HL.out.wr HWf.out (by have := HG.out; omega), HWf.out.blk HR.out (by have := HG.out; omega), by (rw [HAK.out]; (first | rw [if_pos rfl] | rw [if_pos trivial]); rw [HCAP.out]; exact HB5.out.set_ 0 _)⟩
          case measure => simp [intOf]; omega
    · obtain rfl : k = l.length := by omega
      rw [List.take_length] at hB
      (obtain ⟨hca0, hca1, hca2, hca3, hfa0, hfa1, hfa2, hfa3, hga⟩ := Blk.at4 (hR))
      (obtain ⟨hcb0, hcb1, hcb2, hcb3, hfb0, hfb1, hfb2, hfb3, hgb⟩ := Blk.at4 (hB))
      have HL := hid hl
      have hlt' := HG.out
      have n1 : w.heap.size + 1 ≠ g := by omega
      have n2 : g ≠ w.heap.size + 1 := by omega
      clear hl hR hB hlt'
      go_wp2_with (fail)
      ((try simp only [Exit.inBlock, Exit.then]); refine bodyPost_ret (by simp [results, Try.results18, go_sem, hca0, hca1, hca2, hca3]; try rfl) rfl ?_)
      exact ⟨rfl, by repeat (first | (with_reducible exact Later.refl _) | (with_reducible exact HL.out) | with_reducible apply Later.latr | with_reducible apply Later.alloc | with_reducible apply Later.drew | (with_reducible refine Later.set ?_ (by (simp; try omega)) _))⟩
end Go.Proofs.Ytkmffpgejnafaaa
