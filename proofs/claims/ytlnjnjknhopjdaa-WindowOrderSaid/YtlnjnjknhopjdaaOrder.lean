/- The walk of the statement WindowOrder: it answers true. Its numbers are those of a uint32 and of bytes. -/
import Derived.Test.YtlnjnjknhopjdaaRuns
import Derived.Test.YtlnjnjknhopjdaaLaws3
import Derived.Test.YtlnjnjknhopjdaaOwn
namespace Go.Proofs.Ytlnjnjknhopjdaa
open Go.RowKit

theorem info3 : (Try.prog.info? 3).map (fun i => (i.zero, i.size, i.bytes)) = some (some (.int .i64 0), 1, 8) := by kernel_rfl

theorem zs_at (f : Int) (ls : List Int) (k : Nat) (h : k < ls.length) : (ls.map fun x => f + x % 64).getD k 0 = f + ls[k] % 64 := by simp [List.getD, h]
theorem zs_take (f : Int) (ls : List Int) (k : Nat) (h : k < ls.length) : ints ((ls.map fun x => f + x % 64).take (k + 1)) = ints ((ls.map fun x => f + x % 64).take k) ++ [.int .i64 (f + ls[k] % 64)] := by
  rw [take_succ_ _ k (by simpa using h)]
  simp [ints]

set_option maxHeartbeats 8000000 in
theorem order6 (f : Int) (v : Value) (ls : List Int) (w : World) (h0 : 0 ≤ f) (h1 : f ≤ 4294967295) (hv : Arr w 1 v ls.length (ls.map (Value.int .u8))) (hls : ∀ x ∈ ls, 0 ≤ x ∧ x ≤ 255) :
    Calls Try.prog 6 #[.int .u32 f, v] w fun e w' => e = .returned (.bool true) ∧ Later w w' := by
  obtain ⟨i3, hi3, hz3, hs3, hb3⟩ := info_parts info3
  obtain ⟨i4, hi4, hz4, hs4, hb4⟩ := info_parts info4
  rcases arr_cases hv with ⟨a, cap, rfl, h00, _, hmax⟩ | ⟨b, off, cap, rfl, hpos, hlen, hb, hcap, hmax, hcell⟩
  · obtain rfl : ls = [] := List.eq_nil_of_length_eq_zero h00
    go_enter Try.func6, Try.ntmps6
    go_wp2_with (first
      | (go_at_call 7; refine (awake7 _).mono ?_; rintro e w1 ⟨rfl, x1, rfl⟩))
    refine wp_loop_rounds 1 ?_
    rw [rounds_succ]
    go_wp2_with (first
      | (go_at_call 8; refine (run8_any _ [] _ (Arr.nil _ _) (by decide)).mono ?_; rintro e w1 ⟨a1, cap1, rfl, hl, hm1⟩))
    go_rounds 1
    go_ret
    exact ⟨rfl, ((Later.refl w).latr _).trans hl⟩
  by_cases h64 : 64 < ls.length
  · go_enter Try.func6, Try.ntmps6
    go_wp2_with (first
      | (go_at_call 7; refine (awake7 _).mono ?_; rintro e w1 ⟨rfl, x1, rfl⟩))
    go_ret
    exact ⟨rfl, (Later.refl w).latr _⟩
  have HC := hid hcell
  clear hcell
  have hzl : (ls.map fun x => f + x % 64).length = ls.length := by simp
  have hz : ∀ k, k < (ls.map fun x => f + x % 64).length → f ≤ (ls.map fun x => f + x % 64).getD k 0 ∧ (ls.map fun x => f + x % 64).getD k 0 < f + 64 := by
    intro k hk
    rw [zs_at f ls k (by omega)]
    omega
  have hlaw := order_law f h0 h1 _ hz
  have HZ := hid (zs_at f ls)
  have HT := hid (zs_take f ls)
  have HL := hid hls
  have HW := hid hlaw
  have HZL := hid hzl
  clear hls hz hlaw hzl
  generalize (ls.map fun x => f + x % 64) = zs at *
  go_enter Try.func6, Try.ntmps6
  go_wp2_with (first
    | (go_at_call 7; refine (awake7 _).mono ?_; rintro e w1 ⟨rfl, x1, rfl⟩))
  go_loopw [6, 7, 8] (fun s fi i wr => ∃ (k : Nat) (a6 : Option Addr) (c6 : Nat) (a7 : Option Addr) (c7 : Nat), k ≤ ls.length ∧ i = .int .i64 k ∧ s = .slice a6 k c6 ∧ fi = .slice a7 k c7 ∧ Later w wr ∧
      wr.ownsRow w.heap.size 3 1 (.slice a6 k c6) k (ints (zs.take k)) ∧ wr.ownsRow w.heap.size 4 1 (.slice a7 k c7) k (bools (firsts zs k))) (fun _ _ i _ => ls.length - (intOf i).toNat)
  case atStart => exact ⟨0, none, 0, none, 0, Nat.zero_le _, rfl, rfl, rfl, (Later.refl w).latr _, World.ownsRow_nil _ _ _ _, World.ownsRow_nil _ _ _ _⟩
  case round =>
    obtain ⟨k, a6, c6, a7, c7, hk, rfl, rfl, rfl, hlr, ho6, ho7⟩ := hrel
    by_cases hlt : k < ls.length
    · obtain ⟨wo, rfl⟩ : ∃ wo : World, wo = wr := ⟨_, rfl⟩
      have hck : wo.cell? ⟨b, off + k, none⟩ = some (.int .u8 ls[k]) := (hlr.cell hb).trans (HC.out k _ (by simp [hlt]))
      obtain ⟨n0, n1⟩ := HL.out _ (List.getElem_mem hlt)
      have hT := HT.out k hlt
      have hZ := HZ.out k hlt
      have hS := firsts_succ zs k
      rw [hZ] at hS
      generalize ls[k] = lk at *
      have HTk := hid hT
      have HSk := hid hS
      clear hT hS hZ
      have hi1 : (k : Int) < (ls.length : Int) := by omega
      have hbw : b < wo.heap.size := Nat.lt_of_lt_of_le hb hlr.size
      go_wp2_with (fail)
      go_loop [10, 11] (fun c j => ∃ jj : Nat, jj ≤ k ∧ j = .int .i64 jj ∧ c = .bool (noneB zs (f + lk % 64) jj)) (fun _ j => k - (intOf j).toNat)
      case atStart => exact ⟨0, Nat.zero_le _, rfl, rfl⟩
      case round =>
        obtain ⟨jj, hj, rfl, rfl⟩ := hrel
        by_cases hjlt : jj < k
        · obtain ⟨g6, rfl, hbg, hg6, hkc, hc6, hcells⟩ := own_slice ho6 (by omega)
          have hcj : wo.cell? ⟨g6, jj, none⟩ = some (.int .i64 (zs.getD jj 0)) := hcells jj _ (by simp [ints, hjlt, List.getD, show jj < zs.length by rw [HZL.out]; omega])
          clear hcells
          have HN := hid (show noneB zs (f + lk % 64) (jj + 1) = (noneB zs (f + lk % 64) jj && zs.getD jj 0 != f + lk % 64) from rfl)
          have i1 : (jj : Int) < (k : Int) := by omega
          generalize noneB zs (f + lk % 64) jj = c at *
          generalize zs.getD jj 0 = zj at *
          cases c with
          | true =>
            go_wp2
            go_round
            case rel => exact ⟨jj + 1, by omega, by go_num, by rw [HN.out]; simp⟩
            case measure => simp [intOf]; omega
          | false =>
            go_wp2
            go_round
            case rel => exact ⟨jj + 1, by omega, by go_num, by rw [HN.out]; simp⟩
            case measure => simp [intOf]; omega
        · obtain rfl : jj = k := by omega
          go_wp2_with (first
            | (at_builtin
               refine append_new rfl (.tmp 48) (.tmp 50) 22 rfl w.heap.size 3 i3 _ 1 8 Try.underlying22 hi3 hz3 hs3 hb3 rfl (by decide) _ 3 _ jj _ rfl ho6 _ 1 [_] rfl rfl rfl (by simp [Value.oneCell']) (by unfold maxLen; omega) (by omega) hlr.size ?_
               intro v6 w6 hown6 hg6
               have hl6 := hlr.grown hg6 (own_lt ho6 (Nat.le_refl _))
               have ho7' := ho7.kept hg6 (own_ne ho7 ho6 (by decide)))
            | (at_builtin
               refine append_new rfl (.tmp 52) (.tmp 54) 24 rfl w.heap.size 4 i4 _ 1 1 Try.underlying24 hi4 hz4 hs4 hb4 rfl (by decide) _ 4 _ jj _ rfl ho7' _ 1 [_] rfl rfl rfl (by simp [Value.oneCell']) (by unfold maxLen; omega) (by omega) hl6.size ?_
               intro v7 w7 hown7 hg7
               have hl7 := hl6.grown hg7 (own_lt ho7' (Nat.le_refl _))
               have hown6' := hown6.kept hg7 (own_ne hown6 ho7' (by decide))))
          go_roundw
          case rel =>
            obtain ⟨a6', c6', rfl⟩ := own_is_slice hown6'
            obtain ⟨a7', c7', rfl⟩ := own_is_slice hown7
            refine ⟨jj + 1, a6', c6', a7', c7', by omega, by go_num, rfl, rfl, hl7, ?_, ?_⟩
            · rw [HTk.out]; exact hown6'
            · rw [HSk.out]; simpa [bools] using hown7
          case measure => simp [intOf]; omega
    · obtain rfl : k = ls.length := by omega
      obtain ⟨wo, rfl⟩ : ∃ wo : World, wo = wr := ⟨_, rfl⟩
      have hzl := HZL.out
      have htake : zs.take ls.length = zs := by rw [← hzl]; exact List.take_length
      rw [htake] at ho6
      have hA := Arr.of_own ho6
      obtain ⟨g7, rfl, hbg7, hg7, hkc7, hc7, hcells7⟩ := own_slice ho7 hpos
      have HA := hid (show Arr wo 1 (.slice a6 ls.length c6) zs.length (ints zs) by rw [hzl]; exact hA)
      have HC7 := hid hcells7
      clear hA hcells7 ho6 ho7 htake hzl
      have hR := run8_pos (.slice a6 ls.length c6) zs wo HA.out (by rw [HZL.out]; omega) (by rw [HZL.out]; omega)
      rw [HZL.out] at hR
      have HR8 := hid hR
      clear hR
      go_wp2_with (first
        | (go_at_call 8
           refine HR8.out.mono ?_
           rintro e w1 ⟨rb, ro, rcap, rfl, hl, hrb, hrcap, hrmax, hr⟩
           have HR := hid hr
           clear hr))
      go_loopw [13] (fun i wi => ∃ k : Nat, k ≤ ls.length ∧ i = .int .i64 k ∧ Later w1 wi) (fun i _ => ls.length - (intOf i).toNat)
      case atStart => exact ⟨0, Nat.zero_le _, rfl, Later.refl _⟩
      case round =>
        obtain ⟨k, hk, rfl, hli⟩ := hrel
        by_cases hlt : k < ls.length
        · have hv := (HW.out k (by rw [HZL.out]; omega)).2 (by rw [HZL.out]; omega)
          have hrk : wr.cell? ⟨rb, ro + k, none⟩ = some (.bool (noneB zs (zs.getD k 0) k)) := by
            refine (hli.cell hrb).trans (HR.out k _ ?_)
            rw [← hv]
            have hjl : k < (runB 0 0 zs).length := by rw [runB_length, HZL.out]; omega
            simp [bools, List.getD, hjl]
          have hfk : wr.cell? ⟨g7, k, none⟩ = some (.bool (noneB zs (zs.getD k 0) k)) := ((hl.trans hli).cell hg7).trans (HC7.out k _ (by simp [bools, firsts_at zs ls.length k hlt]))
          have hrw : rb < wr.heap.size := Nat.lt_of_lt_of_le hrb hli.size
          have hgw : g7 < wr.heap.size := Nat.lt_of_lt_of_le hg7 (hl.trans hli).size
          have hd : decide (ls.length ≤ k) = false := by simp; omega
          have hi : (k : Int) < (ls.length : Int) := by omega
          clear hv
          generalize noneB zs (zs.getD k 0) k = q at *
          go_wp2_with (fail)
          refine wp_region_calm (by kernel_rfl) (by kernel_rfl) ?_
          repeat (go_big_quiet_step (fail))
          refine wpQuiet_nil ?_
          rintro _ ⟨x, rfl⟩
          go_wp2_with (fail)
          go_roundw
          case rel => exact ⟨k + 1, by omega, by go_num, hli.latr _⟩
          case measure => simp [intOf]; omega
        · obtain rfl : k = ls.length := by omega
          go_wp2
          go_ret
          exact ⟨rfl, (hlr.trans hl).trans hli⟩
end Go.Proofs.Ytlnjnjknhopjdaa
