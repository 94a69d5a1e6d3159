/- PaceSends: its walk, which answers true. No condition. -/
import Derived.Test.YtfjofifkepmdfaaAwake
import Derived.Test.YtfjofifkepmdfaaFloat
namespace Go.Proofs.Ytfjofifkepmdfaa
open Go.RowKit

attribute [local go_sem] h_lt1 h_lt2 h_lt3 h_lt4 h_eq1 h_eq2 h_eq3 h_qe1 h_qe2 h_qe3

theorem outS_at (r n : Int) (ps : List (Int × Int)) : ∀ (b : Bk) (k : Nat) (h : k < ps.length), (outS r n ps b)[k]? = some (goOk r n (runS r n (ps.take k) b) ps[k]) := by
  induction ps with
  | nil => intro b k h; simp at h
  | cons a l ih =>
    intro b k h
    cases k with
    | zero => rfl
    | succ k =>
      have := ih (goT r n b a) k (by simpa using h)
      simpa [outS, runS] using this

set_option maxHeartbeats 8000000 in
theorem sends3 (v : Value) (r n : Int) (ps : List (Int × Int)) (w : World) (hv : Arr w 2 v ps.length (pairs ps)) :
    Calls Try.prog 3 #[.int .i64 r, .int .i64 n, v] w fun e w' => e = .returned (.bool true) ∧ Later w w' := by
  have hf := fill9 { t := 1048576, l := 0 } 0 r n
  change ∀ w, Gives Try.prog 9 _ w (bv (b0 r n)) at hf
  have HF := hid hf
  clear hf
  by_cases h100 : ps.length ≤ 100
  case neg =>
    rcases arr_cases hv with ⟨a, cap, rfl, h0, _, hmax⟩ | ⟨b, off, cap, rfl, hpos, hlen, hb, hcap, hmax, hcell⟩
    · omega
    clear hcell
    have hd : decide (100 < (ps.length : Int)) = true := decide_eq_true (by omega)
    go_enter Try.func3, Try.ntmps3
    go_wp2_with (fail)
    refine (awake7 _).mono ?_
    rintro e w1 ⟨rfl, x1, rfl⟩
    go_wp2_with (fail)
    go_ret
    exact ⟨rfl, by repeat (first | (with_reducible exact Later.refl _) | with_reducible apply Later.latr | with_reducible apply Later.alloc | with_reducible apply Later.drew)⟩
  have hd : decide (100 < (ps.length : Int)) = false := decide_eq_false (by omega)
  have hS := hid (fun W (h : Arr W 2 v ps.length (pairs ps)) => sends8 v r n ps W h (by omega))
  rcases arr_cases hv with ⟨a, cap, rfl, h0, _, hmax⟩ | ⟨b, off, cap, rfl, hpos, hlen, hb, hcap, hmax, hcell⟩
  · obtain rfl : ps = [] := List.eq_nil_of_length_eq_zero h0
    have hV := hid hv
    clear hv
    go_enter Try.func3, Try.ntmps3
    go_wp2_with (fail)
    refine (awake7 _).mono ?_
    rintro e w1 ⟨rfl, x1, rfl⟩
    go_wp2_with (fail)
    refine (hS.out _ (hV.out.latr _)).mono ?_
    rintro e w2 ⟨v', rfl, hl2, hx⟩
    obtain ⟨_, a2, cap2, rfl, _, hmax2, _⟩ := hx
    have hw := hid (((Later.refl w).latr x1).trans hl2)
    go_wp2_with (fail)
    refine (HF.out _).mono ?_
    rintro e w3 ⟨rfl, x3, rfl⟩
    go_wp2_with (fail)
    go_rounds 1
    go_ret
    exact ⟨rfl, by repeat (first | (with_reducible exact hw.out) | with_reducible apply Later.latr | with_reducible apply Later.alloc | with_reducible apply Later.drew)⟩
  have HC := hid hcell
  have hV := hid hv
  clear hcell hv
  go_enter Try.func3, Try.ntmps3
  go_wp2_with (fail)
  refine (awake7 _).mono ?_
  rintro e w1 ⟨rfl, x1, rfl⟩
  go_wp2_with (fail)
  refine (hS.out _ (hV.out.latr _)).mono ?_
  rintro e w2 ⟨v', rfl, hl2, hx⟩
  have hw := hid (((Later.refl w).latr x1).trans hl2)
  rcases arr_cases hx with ⟨a2, cap2, rfl, h02, _, hmax2⟩ | ⟨b2, off2, cap2, rfl, hpos2, hlen2, hb2, hcap2, hmax2, hcell2⟩
  · omega
  have HC2 := hid hcell2
  clear hcell2 hx
  go_wp2_with (fail)
  refine (HF.out _).later.mono ?_
  rintro e w3 ⟨rfl, hl3⟩
  have hw3 := hid (hw.out.trans hl3)
  have hb3 : b2 < w3.heap.size := Nat.lt_of_lt_of_le hb2 hl3.size
  go_wp2_with (fail)
  go_loopw [10] (fun i wr => ∃ k : Nat, k ≤ ps.length ∧ i = .int .i64 k ∧ Later w3 wr ∧
      Blk wr w3.heap.size 27 #[.int .i64 (runS r n (ps.take k) (b0 r n)).t, .int .i64 (runS r n (ps.take k) (b0 r n)).l]) (fun i _ => ps.length - (intOf i).toNat)
  case atStart => exact ⟨0, Nat.zero_le _, rfl, (Later.refl _).alloc _, Blk.new _ _ _⟩
  case round =>
    obtain ⟨k, hk, rfl, hl, hB⟩ := hrel
    by_cases hlt : k < ps.length
    · have hat := pairs_at ps k hlt
      have hlw := hw3.out.trans hl
      have c0 : wr.cell? ⟨b, off + k * 2, none⟩ = some (.int .i64 ps[k].1) := (hlw.cell hb).trans (HC.out _ _ hat.1)
      have c1 : wr.cell? ⟨b, off + k * 2 + 1, none⟩ = some (.int .i64 ps[k].2) := (hlw.cell hb).trans (HC.out _ _ hat.2)
      have hbw : b < wr.heap.size := Nat.lt_of_lt_of_le hb hlw.size
      clear hat hlw
      have hb2w : b2 < wr.heap.size := Nat.lt_of_lt_of_le hb3 hl.size
      have c2 : wr.cell? ⟨b2, off2 + k, none⟩ = some (.bool (goOk r n (runS r n (ps.take k) (b0 r n)) ps[k])) := ((hl3.trans hl).cell hb2).trans (HC2.out k _ (by simp [outS_at r n ps (b0 r n) k hlt]))
      have hS := hB.lt
      have hsn := runS_snoc r n (ps.take k) ps[k] (b0 r n)
      rw [← take_succ_ ps k hlt] at hsn
      have HS := hid hsn
      clear hsn
      generalize runS r n (ps.take k) (b0 r n) = q at *
      generalize ps[k] = x at *
      have hf := fill9 q x.1 r n
      have ht := take10 (fill q x.1 r n) x.2
      unfold tv at ht
      change ∀ w, Gives Try.prog 10 _ w (.tuple #[bv (goT r n q x), .bool (goOk r n q x)]) at ht
      generalize goT r n q x = T at *
      generalize goOk r n q x = m at *
      generalize fill q x.1 r n = F at *
      have HF' := hid hf
      have HT := hid ht
      clear hf ht
      have d0 : wr.cell? ⟨w3.heap.size, 0, none⟩ = some (.int .i64 q.t) := hB.cell 0
      have d1 : wr.cell? ⟨w3.heap.size, 1, none⟩ = some (.int .i64 q.l) := hB.cell 1
      have f0 : wr.frozen? ⟨w3.heap.size, 0, none⟩ = false := hB.frozen 0
      have f1 : wr.frozen? ⟨w3.heap.size, 1, none⟩ = false := hB.frozen 1
      have hdk : decide ((ps.length : Int) ≤ k) = false := decide_eq_false (by omega)
      go_wp2_with (fail)
      apply wp_region_float 18 _ (by kernel_rfl) (by kernel_rfl)
      case h =>
        intro u hu
        have e0 : u.cell? ⟨w3.heap.size, 0, none⟩ = some (.int .i64 q.t) := (hu.cell hS).trans d0
        have e1 : u.cell? ⟨w3.heap.size, 1, none⟩ = some (.int .i64 q.l) := (hu.cell hS).trans d1
        have g0 : u.cell? ⟨b, off + k * 2, none⟩ = some (.int .i64 x.1) := (hu.cell hbw).trans c0
        have g1 : u.cell? ⟨b, off + k * 2 + 1, none⟩ = some (.int .i64 x.2) := (hu.cell hbw).trans c1
        have hbu : b < u.heap.size := Nat.lt_of_lt_of_le hbw hu.size
        have hSu : w3.heap.size < u.heap.size := Nat.lt_of_lt_of_le hS hu.size
        simp only [List.take_succ_cons, List.take_zero]
        repeat (go_big_quiet_step ((first | (go_at_call 9; exact calm_of (HF'.out _)) | (go_at_call 10; exact calm_of (HT.out _)))))
        exact wpQuiet_nil rfl
      case hs =>
        simp only [List.length_cons, List.length_nil, Nat.reduceAdd, Nat.reduceSub, List.range'_succ, List.range'_zero]
        refine wpSp_step rfl rfl (fun y K hK => ?_)
        go_simp
        refine hK _ _ (by repeat (first | (with_reducible exact Later.refl _) | with_reducible apply Later.latr | with_reducible apply Later.alloc | with_reducible apply Later.drew | (with_reducible refine Later.set ?_ (by (simp; try omega)) _))) ?_
        clear hK K
        refine wpSp_step rfl rfl (fun y2 K hK => ?_)
        go_simp
        refine hK _ _ (by repeat (first | (with_reducible exact Later.refl _) | with_reducible apply Later.latr | with_reducible apply Later.alloc | with_reducible apply Later.drew | (with_reducible refine Later.set ?_ (by (simp; try omega)) _))) ?_
        clear hK K
        refine wpSp_step rfl rfl (fun y3 K hK => ?_)
        go_simp
        refine hK _ _ (by repeat (first | (with_reducible exact Later.refl _) | with_reducible apply Later.latr | with_reducible apply Later.alloc | with_reducible apply Later.drew | (with_reducible refine Later.set ?_ (by (simp; try omega)) _))) ?_
        clear hK K
        refine wpSp_nil (fun y4 => ?_)
        have hBp := (((Blk.new (latr wr.drew y) 27 #[.int .i64 0, .int .i64 0]).latr y2).set_ 0 (.int .i64 T.t)).set_ 1 (.int .i64 T.l)
        rw [show (latr wr.drew y).heap.size = wr.heap.size + y.more from size_latr _ _] at hBp
        have hpw : wr.heap.size ≤ wr.heap.size + y.more := Nat.le_add_right _ _
        have hBq := (hBp.latr y3).latr y4
        obtain ⟨W, hW⟩ : ∃ W, W = latr _ y4 := ⟨_, rfl⟩
        rw [← hW]
        have hLW : Later wr W := by
          rw [hW]
          repeat (first | (with_reducible exact Later.refl _) | with_reducible apply Later.latr | with_reducible apply Later.alloc | with_reducible apply Later.drew | (with_reducible refine Later.set ?_ (by (simp; try omega)) _))
        have hBW : Blk W (wr.heap.size + y.more) 27 #[.int .i64 T.t, .int .i64 T.l] := by rw [hW]; exact hBq
        clear hBq hBp hW
        generalize wr.heap.size + y.more = p at *
        have c2W : W.cell? ⟨b2, off2 + k, none⟩ = some (.bool m) := (hLW.cell hb2w).trans c2
        have hb2W : b2 < W.heap.size := Nat.lt_of_lt_of_le hb2w hLW.size
        have hB' := hB.later hLW
        have d0W : W.cell? ⟨w3.heap.size, 0, none⟩ = some (.int .i64 q.t) := hB'.cell 0
        have d1W : W.cell? ⟨w3.heap.size, 1, none⟩ = some (.int .i64 q.l) := hB'.cell 1
        have f0W : W.frozen? ⟨w3.heap.size, 0, none⟩ = false := hB'.frozen 0
        have f1W : W.frozen? ⟨w3.heap.size, 1, none⟩ = false := hB'.frozen 1
        have p0W : W.cell? ⟨p, 0, none⟩ = some (.int .i64 T.t) := hBW.cell 0
        have p1W : W.cell? ⟨p, 1, none⟩ = some (.int .i64 T.l) := hBW.cell 1
        go_wp2_with (fail)
        go_roundw
        case rel =>
          have hl' := hid (hl.trans hLW)
          refine ⟨k + 1, by omega, by go_num, ?_, ?_⟩
          · repeat (first | (with_reducible exact hl'.out) | with_reducible apply Later.latr | with_reducible apply Later.alloc | with_reducible apply Later.drew | (with_reducible refine Later.set ?_ (by (simp; try omega)) _))
          · rw [HS.out]
            exact (hB'.set_ 0 _).set_ 1 _
        case measure => simp [intOf]; omega
    · obtain rfl : k = ps.length := by omega
      have hw4 := hid (hw3.out.trans hl)
      go_wp2_with (fail)
      go_ret
      exact ⟨rfl, by with_reducible exact hw4.out⟩
end Go.Proofs.Ytfjofifkepmdfaa
