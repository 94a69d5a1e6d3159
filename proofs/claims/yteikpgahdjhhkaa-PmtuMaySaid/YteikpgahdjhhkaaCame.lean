/- The walk of Came, the program's. No condition. -/
import Derived.Test.YteikpgahdjhhkaaAsk
import Derived.Test.YteikpgahdjhhkaaFrame
namespace Go.Proofs.Yteikpgahdjhhkaa
open Go.RowKit
attribute [local go_sem] ite_max ite_min
attribute [local go_sem] h_lt1 h_lt2 h_lt3 h_lt4 h_lt5 h_lt6 h_eq1 h_qe1 h_eq2 h_qe2 h_eq3 h_qe3 h_eq4 h_qe4 h_eq5 h_qe5 h_eq6 h_qe6

def sc (s : Snt) : List Value := [.int .i64 s.k, .int .i64 s.t, .int .i64 s.z, .bool s.e, .bool s.p]
def snts (l : List Snt) : List Value := l.flatMap sc
/-- what is known of element number k, in whatever world came later -/
def El (w : World) (b off k : Nat) (s : Snt) : Prop := ∀ X, Later w X → X.cell? ⟨b, off + k * 5, none⟩ = some (.int .i64 s.k) ∧ X.cell? ⟨b, off + k * 5 + 1, none⟩ = some (.int .i64 s.t) ∧ X.cell? ⟨b, off + k * 5 + 2, none⟩ = some (.int .i64 s.z) ∧
  X.cell? ⟨b, off + k * 5 + 3, none⟩ = some (.bool s.e) ∧ X.cell? ⟨b, off + k * 5 + 4, none⟩ = some (.bool s.p) ∧ b < X.heap.size
theorem el_of {w : World} {b off k : Nat} {l : List Snt} (hb : b < w.heap.size) (hc : ∀ j u, (snts l)[j]? = some u → w.cell? ⟨b, off + j, none⟩ = some u) (h : k < l.length) : El w b off k l[k] := by
  have := (flatMap_at sc 5 (fun _ => rfl) l).2 k
  have a0 := this 0 h (by omega)
  have a1 := this 1 h (by omega)
  have a2 := this 2 h (by omega)
  have a3 := this 3 h (by omega)
  have a4 := this 4 h (by omega)
  exact fun X hX => ⟨(hX.cell hb).trans (hc _ _ a0), (hX.cell hb).trans (hc _ _ a1), (hX.cell hb).trans (hc _ _ a2), (hX.cell hb).trans (hc _ _ a3), (hX.cell hb).trans (hc _ _ a4), Nat.lt_of_lt_of_le hb hX.size⟩
theorem cames_take (l : List Snt) (q : Pt) (k : Nat) (h : k < l.length) : cames (l.take (k + 1)) q = came (cames (l.take k) q) l[k] := by rw [take_succ_ l k h, cames_snoc]
theorem loses_take (l : List Snt) (q : Pt) (k : Nat) (h : k < l.length) : loses (l.take (k + 1)) q = lose (loses (l.take k) q) l[k] := by rw [take_succ_ l k h, loses_snoc]

set_option maxHeartbeats 16000000 in
theorem came15 (q0 : Pt) (v : Value) (l : List Snt) (w : World) (hv : Arr w 5 v l.length (snts l)) : Gives Try.prog 15 #[pv q0, v] w (pv (cames l (ofP q0))) := by
  apply gives_of
  have ho := of22 q0
  have hq := ok_of q0
  generalize ofP q0 = r at *
  have HO := hid ho
  have HQ := hid hq
  clear ho hq
  rcases arr_cases hv with ⟨a, cp, rfl, h0, _, hmax⟩ | ⟨b, off, cp, rfl, hpos, hlen, hb, hcap, hmax, hcell⟩
  · obtain rfl : l = [] := List.eq_nil_of_length_eq_zero h0
    clear hv
    (go_enter Try.func15, Try.ntmps15; go_wp2_with (fail))
    (refine (HO.out _).mono ?_; rintro e w1 ⟨rfl, x1, rfl⟩; go_wp2_with (fail))
    go_rounds 1
    go_returns
    exact ⟨rfl, by repeat (first | (with_reducible exact Later.refl _) | with_reducible apply Later.latr | with_reducible apply Later.alloc | with_reducible apply Later.drew | (with_reducible refine Later.set ?_ (by (simp; try omega)) _))⟩
  have HC := hid hcell
  clear hcell hv
  (go_enter Try.func15, Try.ntmps15; go_wp2_with (fail))
  refine (HO.out _).later.mono ?_
  rintro e w1 ⟨rfl, hl1⟩
  have HB := hid (((Blk.new w 23 #[.int .i64 q0.z, .int .i64 q0.h, .int .i64 q0.a, .int .i64 q0.f, .int .i64 q0.b]).alloc (.cells #[.int .i64 0, .int .i64 0, .int .i64 0, .int .i64 0, .int .i64 0] 23)).later hl1)
  have HR := hid ((blk_new (by simp) : Blk _ (w.heap.size + 1) 23 #[.int .i64 0, .int .i64 0, .int .i64 0, .int .i64 0, .int .i64 0]).later hl1)
  have HL := hid ((((Later.refl w).alloc _).alloc _).trans hl1)
  clear hl1
  (obtain ⟨hca0, hca1, hca2, hca3, hca4, hfa0, hfa1, hfa2, hfa3, hfa4, hga⟩ := Blk.at5 (HB.out))
  go_wp2_with (fail)
  obtain ⟨W, hW⟩ : ∃ W, W = (((((w1.setCell ⟨w.heap.size, 0, none⟩ (.int .i64 r.z)).setCell ⟨w.heap.size, 1, none⟩ (.int .i64 r.h)).setCell ⟨w.heap.size, 2, none⟩ (.int .i64 r.a)).setCell ⟨w.heap.size, 3, none⟩ (.int .i64 r.f)).setCell ⟨w.heap.size, 4, none⟩ (.int .i64 r.b)) := ⟨_, rfl⟩
  have HB1 : Hid (Blk W w.heap.size 23 (pc r)) := hid (by rw [hW]; exact (((((HB.out.set_ 0 (.int .i64 r.z)).set_ 1 (.int .i64 r.h)).set_ 2 (.int .i64 r.a)).set_ 3 (.int .i64 r.f)).set_ 4 (.int .i64 r.b)))
  have HR1 : Hid (Blk W (w.heap.size + 1) 23 #[.int .i64 0, .int .i64 0, .int .i64 0, .int .i64 0, .int .i64 0]) := hid (by rw [hW]; exact (((((HR.out.far (p := ⟨w.heap.size, 0, none⟩) (by simp) (.int .i64 r.z)).far (p := ⟨w.heap.size, 1, none⟩) (by simp) (.int .i64 r.h)).far (p := ⟨w.heap.size, 2, none⟩) (by simp) (.int .i64 r.a)).far (p := ⟨w.heap.size, 3, none⟩) (by simp) (.int .i64 r.f)).far (p := ⟨w.heap.size, 4, none⟩) (by simp) (.int .i64 r.b)))
  have HL1 : Hid (Later w W) := hid (by rw [hW]; exact (((((HL.out.set (p := ⟨w.heap.size, 0, none⟩) (by simp) (.int .i64 r.z)).set (p := ⟨w.heap.size, 1, none⟩) (by simp) (.int .i64 r.h)).set (p := ⟨w.heap.size, 2, none⟩) (by simp) (.int .i64 r.a)).set (p := ⟨w.heap.size, 3, none⟩) (by simp) (.int .i64 r.f)).set (p := ⟨w.heap.size, 4, none⟩) (by simp) (.int .i64 r.b)))
  first | rw [← hW] | subst hW
  go_loopw [11] (fun i wr => ∃ k : Nat, k ≤ l.length ∧ i = .int .i64 k ∧ Later w wr ∧ Blk wr (w.heap.size + 1) 23 #[.int .i64 0, .int .i64 0, .int .i64 0, .int .i64 0, .int .i64 0] ∧ Blk wr w.heap.size 23 (pc (cames (l.take k) r))) (fun i _ => l.length - (intOf i).toNat)
  case atStart => exact ⟨0, Nat.zero_le _, rfl, HL1.out, HR1.out, HB1.out⟩
  case round =>
    obtain ⟨k, hk, rfl, hl, hR, hB⟩ := hrel
    by_cases hlt : k < l.length
    · obtain ⟨c0, c1, c2, c3, c4, cb⟩ := el_of hb HC.out hlt wr hl
      have hat := cames_take l r k hlt
      have hok := cames_ok (l.take k) HQ.out
      generalize cames (l.take k) r = p at *
      generalize l[k] = s at *
      have HOK := hid hok
      have HL := hid hl
      have HR := hid hR
      have HB := hid hB
      (obtain ⟨hcb0, hcb1, hcb2, hcb3, hcb4, hfb0, hfb1, hfb2, hfb3, hfb4, hgb⟩ := Blk.at5 (hB))
      clear hok hl hR hB
      have has := asks24 p s
      have hla := large25 s
      unfold came at hat
      generalize asks p s = m at *
      generalize large s = m2 at *
      have HAS := hid has
      have HLA := hid hla
      have HAT := hid hat
      clear has hla hat
      go_wp2_with (fail)
      refine (HAS.out _).mono ?_
      rintro e w2 ⟨rfl, x2, rfl⟩
      cases m
      · go_wp2_with (fail)
        refine (HLA.out _).mono ?_
        rintro e w3 ⟨rfl, x3, rfl⟩
        cases m2
        · go_wp2_with (fail)
          go_roundw
          case rel => exact ⟨k + 1, by omega, by go_num, by repeat (first | (with_reducible exact Later.refl _) | (with_reducible exact HL.out) | with_reducible apply Later.latr | with_reducible apply Later.alloc | with_reducible apply Later.drew | (with_reducible refine Later.set ?_ (by (simp; try omega)) _)), by repeat (first | (with_reducible exact HR.out) | with_reducible apply Blk.latr | with_reducible apply Blk.drew | with_reducible apply Blk.alloc), by (rw [HAT.out]; rw [if_neg (by decide), if_neg (by decide)]); exact (by repeat (first | (with_reducible exact HB.out) | with_reducible apply Blk.latr | with_reducible apply Blk.drew | with_reducible apply Blk.alloc))⟩
          case measure => simp [intOf]; omega
        · go_wp2_with (fail)
          go_roundw
          case rel => exact ⟨k + 1, by omega, by go_num, by (refine Later.set ?_ (by simp) _; exact (by repeat (first | (with_reducible exact Later.refl _) | (with_reducible exact HL.out) | with_reducible apply Later.latr | with_reducible apply Later.alloc | with_reducible apply Later.drew | (with_reducible refine Later.set ?_ (by (simp; try omega)) _)))), by (refine Blk.far ?_ (by simp) _; exact (by repeat (first | (with_reducible exact HR.out) | with_reducible apply Blk.latr | with_reducible apply Blk.drew | with_reducible apply Blk.alloc))), by (rw [HAT.out]; rw [if_neg (by decide)]; (first | rw [if_pos rfl] | rw [if_pos trivial])); exact (((HB.out.alloc _).latr _).latr _).set_ 4 _⟩
          case measure => simp [intOf]; omega
      · go_wp2_with (fail)
        go_roundw
        case rel => exact ⟨k + 1, by omega, by go_num, by (refine ((Later.set ?_ (by simp) _).set (by simp) _).set (by simp) _; exact (by repeat (first | (with_reducible exact Later.refl _) | (with_reducible exact HL.out) | with_reducible apply Later.latr | with_reducible apply Later.alloc | with_reducible apply Later.drew | (with_reducible refine Later.set ?_ (by (simp; try omega)) _)))), by (refine ((Blk.far ?_ (by simp) _).far (by simp) _).far (by simp) _; exact (by repeat (first | (with_reducible exact HR.out) | with_reducible apply Blk.latr | with_reducible apply Blk.drew | with_reducible apply Blk.alloc))), by (rw [HAT.out]; (first | rw [if_pos rfl] | rw [if_pos trivial])); exact ((((HB.out.alloc _).latr _).set_ 0 _).set_ 2 _).set_ 3 _⟩
        case measure => simp [intOf]; omega
    · obtain rfl : k = l.length := by omega
      rw [List.take_length] at hB
      (obtain ⟨hca0, hca1, hca2, hca3, hca4, hfa0, hfa1, hfa2, hfa3, hfa4, hga⟩ := Blk.at5 (hR))
      (obtain ⟨hcb0, hcb1, hcb2, hcb3, hcb4, hfb0, hfb1, hfb2, hfb3, hfb4, hgb⟩ := Blk.at5 (hB))
      have HL := hid hl
      clear hl hR hB
      go_wp2_with (fail)
      ((try simp only [Exit.inBlock, Exit.then]); refine bodyPost_ret (by simp [results, Try.results15, go_sem, hca0, hca1, hca2, hca3, hca4]; try rfl) rfl ?_)
      exact ⟨rfl, by
        have h1 := HL.out
        repeat (first | (with_reducible exact h1) | (with_reducible refine Later.set ?_ (by simp) _))⟩
end Go.Proofs.Yteikpgahdjhhkaa
