/- The walk of pace.Sends: it gives which of some sends may go, one behind the other. Of at most a thousand sends. -/
import Derived.Test.YtfjofifkepmdfaaWalks
namespace Go.Proofs.Ytfjofifkepmdfaa
open Go.RowKit

theorem info4 : (Try.prog.info? 4).map (fun i => (i.zero, i.size, i.bytes)) = some (some (.bool false), 1, 1) := by kernel_rfl

/-- the cells of pairs, of bools -/
def pairs (ps : List (Int × Int)) : List Value := ps.flatMap fun p => [.int .i64 p.1, .int .i64 p.2]
abbrev bools (bs : List Bool) : List Value := bs.map Value.bool
theorem pairs_length (ps : List (Int × Int)) : (pairs ps).length = ps.length * 2 := by
  unfold pairs
  induction ps with
  | nil => rfl
  | cons a l ih => simp only [List.flatMap_cons, List.length_append, ih, List.length_cons, List.length_nil]; omega
theorem pairs_at (ps : List (Int × Int)) : ∀ (k : Nat) (h : k < ps.length), (pairs ps)[k * 2]? = some (.int .i64 ps[k].1) ∧ (pairs ps)[k * 2 + 1]? = some (.int .i64 ps[k].2) := by
  induction ps with
  | nil => intro k h; simp at h
  | cons a l ih =>
    intro k h
    cases k with
    | zero => exact ⟨rfl, rfl⟩
    | succ k =>
      have := ih k (by simpa using h)
      rw [show (k + 1) * 2 = k * 2 + 1 + 1 by omega]
      exact this
theorem pairs_snoc (ps : List (Int × Int)) (x : Int × Int) : pairs (ps ++ [x]) = pairs ps ++ [.int .i64 x.1, .int .i64 x.2] := by simp [pairs]

set_option maxHeartbeats 2000000 in
theorem go15 (b : Bk) (now s r n : Int) (B Br Bn : Nat) (w : World) (hB : Blk w B 27 #[.int .i64 b.t, .int .i64 b.l]) (hr : Blk w Br 3 #[.int .i64 r]) (hn : Blk w Bn 3 #[.int .i64 n]) :
    Calls Try.prog 15 #[.int .i64 now, .int .i64 s, .pointer (some ⟨B, 0, none⟩), .pointer (some ⟨Br, 0, none⟩), .pointer (some ⟨Bn, 0, none⟩)] w fun e w' => e = .returned (.bool (goOk r n b (now, s))) ∧
      ∃ x, w' = ((latr w x).setCell ⟨B, 0, none⟩ (.int .i64 (goT r n b (now, s)).t)).setCell ⟨B, 1, none⟩ (.int .i64 (goT r n b (now, s)).l) := by
  have hf := fill13 b now r n
  have ht := take12 (fill b now r n) s
  unfold goOk goT
  dsimp only
  generalize fill b now r n = F at *
  unfold tv at ht
  generalize take F s = T at *
  generalize may F s = m at *
  have HF := hid hf
  have HT := hid ht
  clear hf ht
  have c0 : w.cell? ⟨B, 0, none⟩ = some (.int .i64 b.t) := hB.cell 0
  have c1 : w.cell? ⟨B, 1, none⟩ = some (.int .i64 b.l) := hB.cell 1
  have e0 : w.frozen? ⟨B, 0, none⟩ = false := hB.frozen 0
  have e1 : w.frozen? ⟨B, 1, none⟩ = false := hB.frozen 1
  have cr : w.cell? ⟨Br, 0, none⟩ = some (.int .i64 r) := hr.cell 0
  have cn : w.cell? ⟨Bn, 0, none⟩ = some (.int .i64 n) := hn.cell 0
  have l0 := hB.lt
  go_enter Try.func15, Try.ntmps15
  go_wp2_with (fail)
  refine (HF.out _).mono ?_
  rintro e w1 ⟨rfl, x1, rfl⟩
  go_wp2_with (fail)
  refine (HT.out _).mono ?_
  rintro e w1 ⟨rfl, x2, rfl⟩
  go_wp2_with (fail)
  go_ret
  exact ⟨rfl, _, rfl⟩

set_option maxHeartbeats 8000000 in
theorem sends8 (v : Value) (r n : Int) (ps : List (Int × Int)) (w : World) (hv : Arr w 2 v ps.length (pairs ps)) (h1000 : ps.length ≤ 1000) :
    Calls Try.prog 8 #[.int .i64 r, .int .i64 n, v] w fun e w' => ∃ v', e = .returned v' ∧ Later w w' ∧ Arr w' 1 v' ps.length (bools (outS r n ps (b0 r n))) := by
  obtain ⟨i0, hi0, hz0, hz1, hz2⟩ := info_parts info4
  have hmf : ∀ (fn : Fn) (first cap : Array Value) (w : World), (Instr.makeFunc fn first cap).run Try.prog w = .ok (.func fn first cap) w := fun _ _ _ _ => rfl
  have hf := fill13 { t := 1048576, l := 0 } 0 r n
  change ∀ w, Gives Try.prog 13 _ w (bv (b0 r n)) at hf
  have HF := hid hf
  clear hf
  rcases arr_cases hv with ⟨a, cap, rfl, h0, _, hmax⟩ | ⟨b, off, cap, rfl, hpos, hlen, hb, hcap, hmax, hcell⟩
  · obtain rfl : ps = [] := List.eq_nil_of_length_eq_zero h0
    go_enter Try.func8, Try.ntmps8
    go_wp2_with (fail)
    refine (HF.out _).mono ?_
    rintro e w1 ⟨rfl, x1, rfl⟩
    go_wp2_with (fail)
    go_rounds 1
    go_ret
    exact ⟨_, rfl, by repeat (first | (with_reducible exact Later.refl _) | with_reducible apply Later.latr | with_reducible apply Later.alloc | with_reducible apply Later.drew | (with_reducible refine Later.set ?_ (by (simp; try omega)) _)), Arr.nil _ _⟩
  have HC := hid hcell
  clear hcell
  go_enter Try.func8, Try.ntmps8
  go_wp2_with (fail)
  refine (HF.out _).later.mono ?_
  rintro e w1 ⟨rfl, hl1⟩
  have hr1 : Blk w1 w.heap.size 3 #[.int .i64 r] := ((Blk.new w 3 _).alloc _).later hl1
  have hn1 : Blk w1 (w.heap.size + 1) 3 #[.int .i64 n] := (by simpa using Blk.new (w.alloc (.cells #[.int .i64 r] 3)) 3 #[.int .i64 n] : Blk ((w.alloc (.cells #[.int .i64 r] 3)).alloc (.cells #[.int .i64 n] 3)) (w.heap.size + 1) 3 #[.int .i64 n]).later hl1
  have hw1 : Later w w1 := (((Later.refl w).alloc _).alloc _).trans hl1
  go_wp2_with (fail)
  go_loopw [6, 18] (fun out i wr => ∃ k : Nat, k ≤ ps.length ∧ i = .int .i64 k ∧ Later w wr ∧ Blk wr w.heap.size 3 #[.int .i64 r] ∧ Blk wr (w.heap.size + 1) 3 #[.int .i64 n] ∧
      Blk wr w1.heap.size 27 #[.int .i64 (runS r n (ps.take k) (b0 r n)).t, .int .i64 (runS r n (ps.take k) (b0 r n)).l] ∧
      wr.ownsRow w.heap.size 4 1 out k (bools (outS r n (ps.take k) (b0 r n)))) (fun _ i _ => ps.length - (intOf i).toNat)
  case atStart => exact ⟨0, Nat.zero_le _, rfl, hw1.alloc _, hr1.alloc _, hn1.alloc _, Blk.new _ _ _, World.ownsRow_nil _ _ _ _⟩
  case round =>
    obtain ⟨k, hk, rfl, hl, hr, hn, hB, hown⟩ := hrel
    by_cases hlt : k < ps.length
    · have hat := pairs_at ps k hlt
      have c0 : wr.cell? ⟨b, off + k * 2, none⟩ = some (.int .i64 ps[k].1) := (hl.cell hb).trans (HC.out _ _ hat.1)
      have c1 : wr.cell? ⟨b, off + k * 2 + 1, none⟩ = some (.int .i64 ps[k].2) := (hl.cell hb).trans (HC.out _ _ hat.2)
      clear hat
      have hbw : b < wr.heap.size := Nat.lt_of_lt_of_le hb hl.size
      have hS := hB.lt
      have hsn := runS_snoc r n (ps.take k) ps[k] (b0 r n)
      have hon := outS_snoc r n (ps.take k) ps[k] (b0 r n)
      rw [← take_succ_ ps k hlt] at hsn hon
      have HS := hid hsn
      have HO := hid hon
      clear hsn hon
      generalize runS r n (ps.take k) (b0 r n) = q at *
      generalize outS r n (ps.take k) (b0 r n) = os at *
      generalize ps[k] = x at *
      go_wp2_with (fail)
      refine (go15 q x.1 x.2 r n w1.heap.size w.heap.size (w.heap.size + 1) _ (hB.alloc _) (hr.alloc _) (hn.alloc _)).mono ?_
      rintro e w2 ⟨rfl, x1, rfl⟩
      have ho2 := own_later hown (((Later.refl wr).alloc (.cells #[.int .i64 x.1, .int .i64 x.2] 31)).latr x1)
      have hB2 := (hB.alloc (.cells #[.int .i64 x.1, .int .i64 x.2] 31)).latr x1
      have hne := own_blk_ne ho2 hB2 (by decide)
      have ho3 := own_set (p := ⟨w1.heap.size, 1, none⟩) (own_set (p := ⟨w1.heap.size, 0, none⟩) ho2 hne (.int .i64 (goT r n q x).t)) hne (.int .i64 (goT r n q x).l)
      have HO3 := hid ho3
      have hle2 := hid (((hl.alloc (.cells #[.int .i64 x.1, .int .i64 x.2] 31)).latr x1).size)
      go_wp2_with (first
        | (at_builtin
           go_must (refine append_new rfl (.tmp 22) (.tmp 29) 24 rfl w.heap.size 4 i0 _ 1 1 Try.underlying24 hi0 hz0 hz1 hz2 rfl (by decide) _ 4 _ k _ rfl HO3.out _ 1 [_] rfl (by simp [go_sem]) rfl (by simp [Value.oneCell']) (by unfold maxLen; omega) (by omega) (by simp; exact hle2.out) ?_)
           intro v1 w2 hown1 hg1))
      have hB3 := (hB2.set_ 0 (.int .i64 (goT r n q x).t)).set_ 1 (.int .i64 (goT r n q x).l)
      have hg := own_blk_ne HO3.out hB3 (by decide)
      have hne1 : w.heap.size ≠ w1.heap.size := Blk.ne_ hr hB (by decide)
      have hne2 : w.heap.size + 1 ≠ w1.heap.size := Blk.ne_ hn hB (by decide)
      have hr3 := ((((hr.alloc (.cells #[.int .i64 x.1, .int .i64 x.2] 31)).latr x1).far (p := ⟨w1.heap.size, 0, none⟩) hne1 (.int .i64 (goT r n q x).t)).far (p := ⟨w1.heap.size, 1, none⟩) hne1 (.int .i64 (goT r n q x).l))
      have hn3 := ((((hn.alloc (.cells #[.int .i64 x.1, .int .i64 x.2] 31)).latr x1).far (p := ⟨w1.heap.size, 0, none⟩) hne2 (.int .i64 (goT r n q x).t)).far (p := ⟨w1.heap.size, 1, none⟩) hne2 (.int .i64 (goT r n q x).l))
      go_roundw
      case rel =>
        refine ⟨k + 1, by omega, by go_num, ?_, hr3.grown hg1 (own_blk_ne HO3.out hr3 (by decide)), hn3.grown hg1 (own_blk_ne HO3.out hn3 (by decide)), ?_, ?_⟩
        · have hw := hw1.size
          exact ((((hl.alloc _).latr x1).set hw _).set hw _).grown hg1 (own_lt HO3.out (Nat.le_refl _))
        · rw [HS.out]
          exact hB3.grown hg1 hg
        · rw [HO.out]
          simpa [bools] using hown1
      case measure => simp [intOf]; omega
    · obtain rfl : k = ps.length := by omega
      go_wp2
      go_ret
      refine ⟨_, rfl, hl, ?_⟩
      have := Arr.of_own hown
      rwa [List.take_length] at this
end Go.Proofs.Ytfjofifkepmdfaa
