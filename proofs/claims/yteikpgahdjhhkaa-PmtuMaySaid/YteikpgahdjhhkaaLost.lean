/- The walk of Lost, the program's. No condition. -/
import Derived.Test.YteikpgahdjhhkaaCame
import Derived.Test.YteikpgahdjhhkaaFrame
namespace Go.Proofs.Yteikpgahdjhhkaa
open Go.RowKit
attribute [local go_sem] ite_max ite_min
attribute [local go_sem] h_lt1 h_lt2 h_lt3 h_lt4 h_lt5 h_lt6 h_eq1 h_qe1 h_eq2 h_qe2 h_eq3 h_qe3 h_eq4 h_qe4 h_eq5 h_qe5 h_eq6 h_qe6

set_option maxHeartbeats 16000000 in
theorem lost17 (q0 : Pt) (v : Value) (l : List Snt) (w : World) (hv : Arr w 5 v l.length (snts l)) : Gives Try.prog 17 #[pv q0, v] w (pv (loses l (ofP q0))) := by
  apply gives_of
  have ho := of22 q0
  have hq := ok_of q0
  generalize ofP q0 = r at *
  have HO := hid ho
  have HQ := hid hq
  clear ho hq
  rcases arr_cases hv with ⟨a, cp, rfl, h0, _, hmax⟩ | ⟨b, off, cp, rfl, hpos, hlen, hb, hcap, hmax, hcell⟩
  · obtain rfl : l = [] := List.eq_nil_of_length_eq_zero h0
    clear hv
    (go_enter Try.func17, Try.ntmps17; go_wp2_with (fail))
    (refine (HO.out _).mono ?_; rintro e w1 ⟨rfl, x1, rfl⟩; go_wp2_with (fail))
    go_rounds 1
    go_returns
    exact ⟨rfl, by repeat (first | (with_reducible exact Later.refl _) | with_reducible apply Later.latr | with_reducible apply Later.alloc | with_reducible apply Later.drew | (with_reducible refine Later.set ?_ (by (simp; try omega)) _))⟩
  have HC := hid hcell
  clear hcell hv
  (go_enter Try.func17, Try.ntmps17; go_wp2_with (fail))
  refine (HO.out _).later.mono ?_
  rintro e w1 ⟨rfl, hl1⟩
  have HB := hid (((Blk.new w 23 #[.int .i64 q0.z, .int .i64 q0.h, .int .i64 q0.a, .int .i64 q0.f, .int .i64 q0.b]).alloc (.cells #[.int .i64 0, .int .i64 0, .int .i64 0, .int .i64 0, .int .i64 0] 23)).later hl1)
  have HR := hid ((blk_new (by simp) : Blk _ (w.heap.size + 1) 23 #[.int .i64 0, .int .i64 0, .int .i64 0, .int .i64 0, .int .i64 0]).later hl1)
  have HL := hid ((((Later.refl w).alloc _).alloc _).trans hl1)
  clear hl1
  (obtain ⟨hca0, hca1, hca2, hca3, hca4, hfa0, hfa1, hfa2, hfa3, hfa4, hga⟩ := Blk.at5 (HB.out))
  go_wp2_with (fail)
  obtain ⟨W, hW⟩ : ∃ W, W = (((((w1.setCell ⟨w.heap.size, 0, none⟩ (.int .i64 r.z)).setCell ⟨w.heap.size, 1, none⟩ (.int .i64 r.h)).setCell ⟨w.heap.size, 2, none⟩ (.int .i64 r.a)).setCell ⟨w.heap.size, 3, none⟩ (.int .i64 r.f)).setCell ⟨w.heap.size, 4, none⟩ (.int .i64 r.b)) := ⟨_, rfl⟩
  have HB1 : Hid (Blk W w.heap.size 23 (pc r)) := hid (by rw [hW]; exact (((((HB.out.set_ 0 (.int .i64 r.z)).set_ 1 (.int .i64 r.h)).set_ 2 (.int .i64 r.a)).set_ 3 (.int .i64 r.f)).set_ 4 (.int .i64 r.b)))
  have HR1 : Hid (Blk W (w.heap.size + 1) 23 #[.int .i64 0, .int .i64 0, .int .i64 0, .int .i64 0, .int .i64 0]) := hid (by rw [hW]; exact (((((HR.out.far (p := ⟨w.heap.size, 0, none⟩) (by simp) (.int .i64 r.z)).far (p := ⟨w.heap.size, 1, none⟩) (by simp) (.int .i64 r.h)).far (p := ⟨w.heap.size, 2, none⟩) (by simp) (.int .i64 r.a)).far (p := ⟨w.heap.size, 3, none⟩) (by simp) (.int .i64 r.f)).far (p := ⟨w.heap.size, 4, none⟩) (by simp) (.int .i64 r.b)))
  have HL1 : Hid (Later w W) := hid (by rw [hW]; exact (((((HL.out.set (p := ⟨w.heap.size, 0, none⟩) (by simp) (.int .i64 r.z)).set (p := ⟨w.heap.size, 1, none⟩) (by simp) (.int .i64 r.h)).set (p := ⟨w.heap.size, 2, none⟩) (by simp) (.int .i64 r.a)).set (p := ⟨w.heap.size, 3, none⟩) (by simp) (.int .i64 r.f)).set (p := ⟨w.heap.size, 4, none⟩) (by simp) (.int .i64 r.b)))
  first | rw [← hW] | subst hW
  go_loopw [11] (fun i wr => ∃ k : Nat, k ≤ l.length ∧ i = .int .i64 k ∧ Later w wr ∧ Blk wr (w.heap.size + 1) 23 #[.int .i64 0, .int .i64 0, .int .i64 0, .int .i64 0, .int .i64 0] ∧ Blk wr w.heap.size 23 (pc (loses (l.take k) r))) (fun i _ => l.length - (intOf i).toNat)
  case atStart => exact ⟨0, Nat.zero_le _, rfl, HL1.out, HR1.out, HB1.out⟩
  case round =>
    obtain ⟨k, hk, rfl, hl, hR, hB⟩ := hrel
    by_cases hlt : k < l.length
    · obtain ⟨c0, c1, c2, c3, c4, cb⟩ := el_of hb HC.out hlt wr hl
      have hat := loses_take l r k hlt
      have hok := loses_ok (l.take k) HQ.out
      generalize loses (l.take k) r = p at *
      generalize l[k] = s at *
      have HOK := hid hok
      have HL := hid hl
      have HR := hid hR
      have HB := hid hB
      (obtain ⟨hcb0, hcb1, hcb2, hcb3, hcb4, hfb0, hfb1, hfb2, hfb3, hfb4, hgb⟩ := Blk.at5 (hB))
      clear hok hl hR hB
      have has := asks24 p s
      have hla := large25 s
      unfold lose at hat
      have hst := start21
      generalize asks p s = m at *
      generalize large s = m2 at *
      obtain ⟨b1, b2, b3, b4, b5, b6, b7, b8⟩ := HOK.out
      have HAS := hid has
      have HLA := hid hla
      have HST := hid hst
      clear has hla hst
      go_wp2_with (fail)
      refine (HAS.out _).later.mono ?_
      rintro e w2 ⟨rfl, hl2⟩
      have HB2 := hid ((HB.out.alloc (.cells #[.int .i64 s.k, .int .i64 s.t, .int .i64 s.z, .bool s.e, .bool s.p] 40)).later hl2)
      have HR2 := hid ((HR.out.alloc (.cells #[.int .i64 s.k, .int .i64 s.t, .int .i64 s.z, .bool s.e, .bool s.p] 40)).later hl2)
      have HL2 := hid ((HL.out.alloc (.cells #[.int .i64 s.k, .int .i64 s.t, .int .i64 s.z, .bool s.e, .bool s.p] 40)).trans hl2)
      have HS2 := hid ((Blk.new wr 40 #[.int .i64 s.k, .int .i64 s.t, .int .i64 s.z, .bool s.e, .bool s.p]).later hl2)
      clear hl2
      (obtain ⟨hcb20, hcb21, hcb22, hcb23, hcb24, hfb20, hfb21, hfb22, hfb23, hfb24, hgb2⟩ := Blk.at5 (HB2.out))
      (obtain ⟨hcs20, hcs21, hcs22, hcs23, hcs24, hfs20, hfs21, hfs22, hfs23, hfs24, hgs2⟩ := Blk.at5 (HS2.out))
      cases m
      · rw [if_neg (by decide)] at hat
        have HAT := hid hat
        clear hat
        go_wp2_with (fail)
        refine (HLA.out _).later.mono ?_
        rintro e w3 ⟨rfl, hl3⟩
        have HB3 := hid (HB2.out.later hl3)
        have HR3 := hid (HR2.out.later hl3)
        have HL3 := hid (HL2.out.trans hl3)
        have HS3 := hid (HS2.out.later hl3)
        clear hl3
        (obtain ⟨hcb30, hcb31, hcb32, hcb33, hcb34, hfb30, hfb31, hfb32, hfb33, hfb34, hgb3⟩ := Blk.at5 (HB3.out))
        (obtain ⟨hcs30, hcs31, hcs32, hcs33, hcs34, hfs30, hfs31, hfs32, hfs33, hfs34, hgs3⟩ := Blk.at5 (HS3.out))
        cases m2
        · go_wp2_with (fail)
          go_roundw
          case rel => exact ⟨k + 1, by omega, by go_num, HL3.out, HR3.out, by (rw [HAT.out]; rw [if_neg (by simp)]); exact HB3.out⟩
          case measure => simp [intOf]; omega
        · obtain ⟨sk, st, sz, se, sp⟩ := s
          dsimp only at *
          cases se
          · go_wp2_with (fail)
            go_roundw
            case rel => exact ⟨k + 1, by omega, by go_num, HL3.out, HR3.out, by (rw [HAT.out]; rw [if_neg (by simp)]); exact HB3.out⟩
            case measure => simp [intOf]; omega
          · have hbl : loses (l.take (k + 1)) r = black p := by rw [HAT.out, if_pos (by simp)]
            unfold black at hbl
            have e0 : IntKind.i64.wrap (p.b + 1) = p.b + 1 := IntWalk.i64_in _ (by omega)
            by_cases h6 : p.b + 1 = 6
            · rw [if_pos h6] at hbl
              have HBL := hid hbl
              have e1 : (p.b + 1 == 6) = true := by simpa using h6
              have e2 : decide (p.b + 1 = 6) = true := decide_eq_true h6
              clear hbl h6
              go_wp2_with (fail)
              refine (HST.out _).mono ?_
              rintro e w4 ⟨rfl, x4, rfl⟩
              obtain ⟨V, hV⟩ : ∃ V, V = latr _ x4 := ⟨_, rfl⟩
              rw [← hV]
              have HBV : Hid (Blk V w.heap.size 23 #[.int .i64 p.z, .int .i64 p.h, .int .i64 p.a, .int .i64 p.f, .int .i64 (p.b + 1)]) := hid (by rw [hV]; exact (HB3.out.set_ 4 _).latr _)
              have HRV : Hid (Blk V (w.heap.size + 1) 23 #[.int .i64 0, .int .i64 0, .int .i64 0, .int .i64 0, .int .i64 0]) := hid (by rw [hV]; exact (HR3.out.far (by simp) _).latr _)
              have HLV : Hid (Later w V) := hid (by rw [hV]; exact (HL3.out.set (by simp) _).latr _)
              clear hV
              (obtain ⟨hcv0, hcv1, hcv2, hcv3, hcv4, hfv0, hfv1, hfv2, hfv3, hfv4, hgv⟩ := Blk.at5 (HBV.out))
              go_wp2_with (fail)
              go_roundw
              case rel => exact ⟨k + 1, by omega, by go_num, (((((HLV.out.set (by simp) _).set (by simp) _).set (by simp) _).set (by simp) _).set (by simp) _), (((((HRV.out.far (by simp) _).far (by simp) _).far (by simp) _).far (by simp) _).far (by simp) _), by rw [HBL.out]; exact ((((HBV.out.set_ 0 _).set_ 1 _).set_ 2 _).set_ 3 _).set_ 4 _⟩
              case measure => simp [intOf]; omega
            · rw [if_neg h6] at hbl
              have HBL := hid hbl
              have e1 : (p.b + 1 == 6) = false := by simpa using h6
              have e2 : decide (p.b + 1 = 6) = false := decide_eq_false h6
              clear hbl h6
              go_wp2_with (fail)
              go_roundw
              case rel => exact ⟨k + 1, by omega, by go_num, HL3.out.set (by simp) _, HR3.out.far (by simp) _, by rw [HBL.out]; exact HB3.out.set_ 4 _⟩
              case measure => simp [intOf]; omega
      · have hms : loses (l.take (k + 1)) r = miss p := by rw [hat]; (first | rw [if_pos rfl] | rw [if_pos trivial])
        clear hat
        unfold miss at hms
        have e0 : IntKind.i64.wrap (p.f + 1) = p.f + 1 := IntWalk.i64_in _ (by omega)
        have e0' : IntKind.i64.wrap (p.a - 1) = p.a - 1 := IntWalk.i64_in _ (by omega)
        by_cases h6 : p.f + 1 = 3
        · rw [if_pos h6] at hms
          have HMS := hid hms
          have e1 : (p.f + 1 == 3) = true := by simpa using h6
          have e2 : decide (p.f + 1 = 3) = true := decide_eq_true h6
          clear hms h6
          go_wp2_with (fail)
          go_roundw
          case rel => exact ⟨k + 1, by omega, by go_num, ((((HL2.out.set (by simp) _).set (by simp) _).set (by simp) _).set (by simp) _), ((((HR2.out.far (by simp) _).far (by simp) _).far (by simp) _).far (by simp) _), by rw [HMS.out]; exact (((HB2.out.set_ 3 _).set_ 1 _).set_ 3 _).set_ 2 _⟩
          case measure => simp [intOf]; omega
        · rw [if_neg h6] at hms
          have HMS := hid hms
          have e1 : (p.f + 1 == 3) = false := by simpa using h6
          have e2 : decide (p.f + 1 = 3) = false := decide_eq_false h6
          clear hms h6
          go_wp2_with (fail)
          go_roundw
          case rel => exact ⟨k + 1, by omega, by go_num, ((HL2.out.set (by simp) _).set (by simp) _), ((HR2.out.far (by simp) _).far (by simp) _), by rw [HMS.out]; exact (HB2.out.set_ 3 _).set_ 2 _⟩
          case measure => simp [intOf]; omega
    · obtain rfl : k = l.length := by omega
      rw [List.take_length] at hB
      (obtain ⟨hca0, hca1, hca2, hca3, hca4, hfa0, hfa1, hfa2, hfa3, hfa4, hga⟩ := Blk.at5 (hR))
      (obtain ⟨hcb0, hcb1, hcb2, hcb3, hcb4, hfb0, hfb1, hfb2, hfb3, hfb4, hgb⟩ := Blk.at5 (hB))
      have HL := hid hl
      clear hl hR hB
      go_wp2_with (fail)
      ((try simp only [Exit.inBlock, Exit.then]); refine bodyPost_ret (by simp [results, Try.results17, go_sem, hca0, hca1, hca2, hca3, hca4]; try rfl) rfl ?_)
      exact ⟨rfl, by
        have h1 := HL.out
        repeat (first | (with_reducible exact h1) | (with_reducible refine Later.set ?_ (by simp) _))⟩
end Go.Proofs.Yteikpgahdjhhkaa
