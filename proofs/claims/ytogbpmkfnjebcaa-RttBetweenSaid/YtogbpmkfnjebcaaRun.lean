/- The walk of rtt.Run: it gives what is known behind answers, one behind the other. No condition. -/
import Derived.Test.YtogbpmkfnjebcaaStep
namespace Go.Proofs.Ytogbpmkfnjebcaa
open Go.RowKit

/-- the cells of pairs -/
def pairs (ps : List (Int × Int)) : List Value := ps.flatMap fun p => [.int .i64 p.1, .int .i64 p.2]
theorem pairs_length (ps : List (Int × Int)) : (pairs ps).length = ps.length * 2 := by
  unfold pairs
  induction ps with
  | nil => rfl
  | cons a l ih => simp only [List.flatMap_cons, List.length_append, ih, List.length_cons, List.length_nil]; omega
theorem pairs_at (ps : List (Int × Int)) : ∀ (k : Nat) (h : k < ps.length), (pairs ps)[k * 2]? = some (.int .i64 ps[k].1) ∧ (pairs ps)[k * 2 + 1]? = some (.int .i64 ps[k].2) := by
  induction ps with
  | nil => intro k h; simp at h
  | cons a l ih =>
    intro k h
    cases k with
    | zero => exact ⟨rfl, rfl⟩
    | succ k =>
      have := ih k (by simpa using h)
      rw [show (k + 1) * 2 = k * 2 + 1 + 1 by omega]
      exact this
theorem pairs_snoc (ps : List (Int × Int)) (x : Int × Int) : pairs (ps ++ [x]) = pairs ps ++ [.int .i64 x.1, .int .i64 x.2] := by simp [pairs]

def r0 : Rt := { has := false, l := 0, s := 0, v := 0 }
theorem stepR_has (r : Rt) (a b : Int) : (stepR r a b).has = true := by unfold stepR step; split <;> rfl

set_option maxHeartbeats 4000000 in
theorem run15 (v : Value) (ps : List (Int × Int)) (w : World) (hv : Arr w 2 v ps.length (pairs ps)) :
    Gives Try.prog 15 #[v] w (.agg #[.bool (runR ps r0).has, .int .i64 (runR ps r0).l, .int .i64 (runR ps r0).s, .int .i64 (runR ps r0).v]) := by
  apply gives_of
  rcases arr_cases hv with ⟨a, cap, rfl, h0, _, hmax⟩ | ⟨b, off, cap, rfl, hpos, hlen, hb, hcap, hmax, hcell⟩
  · obtain rfl : ps = [] := List.eq_nil_of_length_eq_zero h0
    go_enter Try.func15, Try.ntmps15
    go_wp2_with (fail)
    go_rounds 1
    go_returns
    exact ⟨rfl, by repeat (first | (with_reducible exact Later.refl _) | with_reducible apply Later.latr | with_reducible apply Later.alloc | with_reducible apply Later.drew | (with_reducible refine Later.set ?_ (by simp) _))⟩
  have HC := hid hcell
  clear hcell
  go_enter Try.func15, Try.ntmps15
  go_wp2_with (fail)
  go_loopw [7] (fun i wr => ∃ k : Nat, k ≤ ps.length ∧ i = .int .i64 k ∧ Later w wr ∧
      Blk wr w.heap.size 23 #[.bool (runR (ps.take k) r0).has, .int .i64 (runR (ps.take k) r0).l, .int .i64 (runR (ps.take k) r0).s, .int .i64 (runR (ps.take k) r0).v]) (fun i _ => ps.length - (intOf i).toNat)
  case atStart => exact ⟨0, Nat.zero_le _, rfl, (Later.refl _).alloc _, Blk.new _ _ _⟩
  case round =>
    obtain ⟨k, hk, rfl, hl, hB⟩ := hrel
    by_cases hlt : k < ps.length
    · have hat := pairs_at ps k hlt
      have c0 : wr.cell? ⟨b, off + k * 2, none⟩ = some (.int .i64 ps[k].1) := (hl.cell hb).trans (HC.out _ _ hat.1)
      have c1 : wr.cell? ⟨b, off + k * 2 + 1, none⟩ = some (.int .i64 ps[k].2) := (hl.cell hb).trans (HC.out _ _ hat.2)
      clear hat
      have hbw : b < wr.heap.size := Nat.lt_of_lt_of_le hb hl.size
      have hS := hB.lt
      have hsn := runR_snoc (ps.take k) ps[k] r0
      rw [← take_succ_ ps k hlt] at hsn
      have HS := hid hsn
      clear hsn
      generalize runR (ps.take k) r0 = r at *
      generalize ps[k] = x at *
      have d0 : wr.cell? ⟨w.heap.size, 0, none⟩ = some (.bool r.has) := hB.cell 0
      have d1 : wr.cell? ⟨w.heap.size, 1, none⟩ = some (.int .i64 r.l) := hB.cell 1
      have d2 : wr.cell? ⟨w.heap.size, 2, none⟩ = some (.int .i64 r.s) := hB.cell 2
      have d3 : wr.cell? ⟨w.heap.size, 3, none⟩ = some (.int .i64 r.v) := hB.cell 3
      have f0 : wr.frozen? ⟨w.heap.size, 0, none⟩ = false := hB.frozen 0
      have f1 : wr.frozen? ⟨w.heap.size, 1, none⟩ = false := hB.frozen 1
      have f2 : wr.frozen? ⟨w.heap.size, 2, none⟩ = false := hB.frozen 2
      have f3 : wr.frozen? ⟨w.heap.size, 3, none⟩ = false := hB.frozen 3
      have hh := hid (stepR_has r x.1 x.2)
      go_wp2_with (fail)
      refine (step9 r x.1 x.2 _).mono ?_
      rintro e w1 ⟨rfl, x1, rfl⟩
      go_wp2_with (fail)
      go_roundw
      case rel =>
        have hl' := hid hl
        refine ⟨k + 1, by omega, by go_num, ?_, ?_⟩
        · repeat (first | (with_reducible exact hl'.out) | with_reducible apply Later.latr | with_reducible apply Later.alloc | with_reducible apply Later.drew | (with_reducible refine Later.set ?_ (by simp) _))
        · rw [HS.out, hh.out]
          exact (((((hB.alloc _).latr _).set_ 0 _).set_ 1 _).set_ 2 _).set_ 3 _
      case measure => simp [intOf]; omega
    · obtain rfl : k = ps.length := by omega
      rw [List.take_length] at hB
      generalize hr : runR ps r0 = r at hB
      have hR := hid hr
      clear hr
      have hS := hB.lt
      have d0 : wr.cell? ⟨w.heap.size, 0, none⟩ = some (.bool r.has) := hB.cell 0
      have d1 : wr.cell? ⟨w.heap.size, 1, none⟩ = some (.int .i64 r.l) := hB.cell 1
      have d2 : wr.cell? ⟨w.heap.size, 2, none⟩ = some (.int .i64 r.s) := hB.cell 2
      have d3 : wr.cell? ⟨w.heap.size, 3, none⟩ = some (.int .i64 r.v) := hB.cell 3
      have f0 : wr.frozen? ⟨w.heap.size, 0, none⟩ = false := hB.frozen 0
      have f1 : wr.frozen? ⟨w.heap.size, 1, none⟩ = false := hB.frozen 1
      have f2 : wr.frozen? ⟨w.heap.size, 2, none⟩ = false := hB.frozen 2
      have f3 : wr.frozen? ⟨w.heap.size, 3, none⟩ = false := hB.frozen 3
      go_wp2
      refine bodyPost_ret (v := .agg #[.bool r.has, .int .i64 r.l, .int .i64 r.s, .int .i64 r.v]) (by simp [results, Try.results15, go_sem, d0, d1, d2, d3]) rfl ?_
      refine ⟨by rw [hR.out], ?_⟩
      have hl' := hid hl
      repeat (first | (with_reducible exact hl'.out) | with_reducible apply Later.latr | with_reducible apply Later.alloc | with_reducible apply Later.drew | (with_reducible refine Later.set ?_ (by simp) _))
end Go.Proofs.Ytogbpmkfnjebcaa
