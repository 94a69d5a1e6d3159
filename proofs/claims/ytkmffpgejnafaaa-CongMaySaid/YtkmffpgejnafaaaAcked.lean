/- The walk of Acked, the program's. No condition. -/
import Derived.Test.YtkmffpgejnafaaaGrow
import Derived.Test.YtkmffpgejnafaaaFrame
namespace Go.Proofs.Ytkmffpgejnafaaa
open Go.RowKit
attribute [local go_sem] ite_max ite_min
attribute [local go_sem] h_lt1 h_lt2 h_lt3 h_lt4 h_lt5 h_lt6 h_eq1 h_qe1 h_eq2 h_qe2 h_eq3 h_qe3 h_eq4 h_qe4 h_eq5 h_qe5 h_eq6 h_qe6

/-- the cells of packets -/
def sc (s : Snt) : List Value := [.int .i64 s.k, .int .i64 s.t, .int .i64 s.z, .bool s.e, .bool s.p]
def snts (l : List Snt) : List Value := l.flatMap sc
theorem snts_at (l : List Snt) (k : Nat) (h : k < l.length) : (snts l)[k * 5]? = some (.int .i64 l[k].k) ∧ (snts l)[k * 5 + 1]? = some (.int .i64 l[k].t) ∧ (snts l)[k * 5 + 2]? = some (.int .i64 l[k].z) ∧
    (snts l)[k * 5 + 3]? = some (.bool l[k].e) ∧ (snts l)[k * 5 + 4]? = some (.bool l[k].p) := by
  have := (flatMap_at sc 5 (fun _ => rfl) l).2 k
  exact ⟨(this 0 h (by omega)), (this 1 h (by omega)), (this 2 h (by omega)), (this 3 h (by omega)), (this 4 h (by omega))⟩
theorem acks_take (l : List Snt) (q : Rn) (k : Nat) (h : k < l.length) : acks (l.take (k + 1)) q = ack (acks (l.take k) q) l[k] := by rw [take_succ_ l k h, acks_snoc]
theorem loses_take (now : Int) (l : List Snt) (q : Rn) (k : Nat) (h : k < l.length) : loses now (l.take (k + 1)) q = lose now (loses now (l.take k) q) l[k] := by rw [take_succ_ l k h, loses_snoc]

set_option maxHeartbeats 8000000 in
theorem acked13 (r : Rn) (v : Value) (l : List Snt) (w : World) (hv : Arr w 5 v l.length (snts l)) : Gives Try.prog 13 #[rv r, v] w (rv (acks l (ofR r))) := by
  apply gives_of
  have ho := of23 r
  have hq := ok_of r
  generalize ofR r = q at *
  have HO := hid ho
  have HQ := hid hq
  clear ho hq
  rcases arr_cases hv with ⟨a, cap, rfl, h0, _, hmax⟩ | ⟨b, off, cap, rfl, hpos, hlen, hb, hcap, hmax, hcell⟩
  · obtain rfl : l = [] := List.eq_nil_of_length_eq_zero h0
    clear hv
    (go_enter Try.func13, Try.ntmps13; go_wp2_with (fail))
    refine (HO.out _).mono ?_
    rintro e w1 ⟨g, x, rfl, rfl, hlt, hB⟩
    (obtain ⟨hca0, hca1, hca2, hca3, hfa0, hfa1, hfa2, hfa3, hga⟩ := Blk.at4 (hB))
    simp at hlt
    have n1 : w.heap.size + 1 ≠ g := by omega
    have n2 : g ≠ w.heap.size + 1 := by omega
    clear hB
    go_wp2_with (fail)
    go_rounds 1
    go_returns
    exact ⟨rfl, by repeat (first | (with_reducible exact Later.refl _) | with_reducible apply Later.latr | with_reducible apply Later.alloc | with_reducible apply Later.drew | (with_reducible refine Later.set ?_ (by (simp; try omega)) _))⟩
  have HC := hid hcell
  clear hcell hv
  (go_enter Try.func13, Try.ntmps13; go_wp2_with (fail))
  refine (HO.out _).mono ?_
  rintro e w1 ⟨g, x, rfl, hx, hlt, hB⟩
  rw [← hx] at hB
  simp at hlt
  have hl1 := hx ▸ latr_later _ _
  have hw1 : Later w w1 := Later.trans (by repeat (first | (with_reducible exact Later.refl _) | with_reducible apply Later.latr | with_reducible apply Later.alloc | with_reducible apply Later.drew | (with_reducible refine Later.set ?_ (by (simp; try omega)) _))) hl1
  have hR1 : Blk w1 (w.heap.size + 1) 25 #[.int .i64 0, .int .i64 0, .int .i64 0, .int .i64 0] := (blk_new (by simp)).later hl1
  clear hx hl1
  have HR1 := hid hR1
  have HB := hid hB
  have HW := hid hw1
  have HLT := hid hlt
  clear hR1 hB hw1 hlt
  go_wp2_with (fail)
  go_loopw [12] (fun i wr => ∃ k : Nat, k ≤ l.length ∧ i = .int .i64 k ∧ Later w wr ∧ Blk wr (w.heap.size + 1) 25 #[.int .i64 0, .int .i64 0, .int .i64 0, .int .i64 0] ∧ Blk wr g 51 (rc (acks (l.take k) q))) (fun i _ => l.length - (intOf i).toNat)
  case atStart => exact ⟨0, Nat.zero_le _, rfl, HW.out, HR1.out, HB.out⟩
  case round =>
    obtain ⟨k, hk, rfl, hl, hR, hB⟩ := hrel
    by_cases hlt : k < l.length
    · obtain ⟨a0, a1, a2, a3, a4⟩ := snts_at l k hlt
      have c0 : wr.cell? ⟨b, off + k * 5, none⟩ = some _ := (hl.cell hb).trans (HC.out _ _ a0)
      have c1 : wr.cell? ⟨b, off + k * 5 + 1, none⟩ = some _ := (hl.cell hb).trans (HC.out _ _ a1)
      have c2 : wr.cell? ⟨b, off + k * 5 + 2, none⟩ = some _ := (hl.cell hb).trans (HC.out _ _ a2)
      have c3 : wr.cell? ⟨b, off + k * 5 + 3, none⟩ = some _ := (hl.cell hb).trans (HC.out _ _ a3)
      have c4 : wr.cell? ⟨b, off + k * 5 + 4, none⟩ = some _ := (hl.cell hb).trans (HC.out _ _ a4)
      clear a0 a1 a2 a3 a4
      have hbw : b < wr.heap.size := Nat.lt_of_lt_of_le hb hl.size
      have hat := hid (acks_take l q k hlt)
      have hok := hid (acks_ok (l.take k) HQ.out).1
      generalize acks (l.take k) q = p at *
      generalize l[k] = s at *
      have hc := counted24 p s g
      have hcb : cnt p s = true → _ := cnt_bd
      have HAK : Hid (acks (l.take (k + 1)) q = if cnt p s = true then grow p s.z else p) := hid (by rw [hat.out]; rfl)
      clear hat
      generalize cnt p s = m at *
      have HCN := hid hc
      have HCB := hid hcb
      clear hc hcb
      have HL := hid hl
      have HR := hid hR
      have HB := hid hB
      clear hl hR hB
      go_wp2_with (fail)
      refine (HCN.out _ (HB.out.alloc _)).mono ?_
      rintro e w2 ⟨rfl, x2, rfl⟩
      cases m
      · go_wp2_with (fail)
        go_roundw
        case rel => exact ⟨k + 1, by omega, by go_num, by repeat (first | (with_reducible exact Later.refl _) | (with_reducible exact HL.out) | with_reducible apply Later.latr | with_reducible apply Later.alloc | with_reducible apply Later.drew | (with_reducible refine Later.set ?_ (by (simp; try omega)) _)), (HR.out.alloc _).latr _, by (rw [HAK.out]; rw [if_neg (by decide)]); exact (HB.out.alloc _).latr _⟩
        case measure => simp [intOf]; omega
      · obtain ⟨_, ⟨z1, z2⟩, _⟩ := HCB.out rfl
        have hBB := hid ((HB.out.alloc (.cells #[.int .i64 s.k, .int .i64 s.t, .int .i64 s.z, .bool s.e, .bool s.p] 31)).latr x2)
        have hRR := hid ((HR.out.alloc (.cells #[.int .i64 s.k, .int .i64 s.t, .int .i64 s.z, .bool s.e, .bool s.p] 31)).latr x2)
        have hLL := hid ((HL.out.alloc (.cells #[.int .i64 s.k, .int .i64 s.t, .int .i64 s.z, .bool s.e, .bool s.p] 31)).latr x2)
        go_wp2_with (fail)
        refine (grow26 p s.z g _ hBB.out hok.out z1 z2).mono ?_
        rintro e w3 ⟨rfl, hWr, hB3⟩
        have HWR := hid hWr
        have HB3 := hid hB3
        clear hWr hB3
        go_wp2_with (fail)
        go_roundw
        case rel => exact ⟨k + 1, by omega, by go_num, hLL.out.wr HWR.out (by have := HLT.out; omega), HWR.out.blk hRR.out (by have := HLT.out; omega), by (rw [HAK.out]; first | rw [if_pos rfl] | rw [if_pos trivial]); exact HB3.out⟩
        case measure => simp [intOf]; omega
    · obtain rfl : k = l.length := by omega
      rw [List.take_length] at hB
      (obtain ⟨hca0, hca1, hca2, hca3, hfa0, hfa1, hfa2, hfa3, hga⟩ := Blk.at4 (hR))
      (obtain ⟨hcb0, hcb1, hcb2, hcb3, hfb0, hfb1, hfb2, hfb3, hgb⟩ := Blk.at4 (hB))
      have HL := hid hl
      have hlt' := HLT.out
      have n1 : w.heap.size + 1 ≠ g := by omega
      have n2 : g ≠ w.heap.size + 1 := by omega
      clear hl hR hB hlt'
      go_wp2_with (fail)
      ((try simp only [Exit.inBlock, Exit.then]); refine bodyPost_ret (by simp [results, Try.results13, go_sem, hca0, hca1, hca2, hca3]; try rfl) rfl ?_)
      exact ⟨rfl, by repeat (first | (with_reducible exact Later.refl _) | (with_reducible exact HL.out) | with_reducible apply Later.latr | with_reducible apply Later.alloc | with_reducible apply Later.drew | (with_reducible refine Later.set ?_ (by (simp; try omega)) _))⟩
end Go.Proofs.Ytkmffpgejnafaaa
