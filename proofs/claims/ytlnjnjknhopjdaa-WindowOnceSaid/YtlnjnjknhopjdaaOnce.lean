/- The walk of the statement WindowOnce: it answers true. No condition. -/
import Derived.Test.YtlnjnjknhopjdaaRuns
import Derived.Test.YtlnjnjknhopjdaaLaws2
namespace Go.Proofs.Ytlnjnjknhopjdaa
open Go.RowKit
attribute [local go_sem] ite_max ite_min

set_option maxRecDepth 100000 in
set_option maxHeartbeats 8000000 in
theorem once4 (v : Value) (zs : List Int) (w : World) (hv : Arr w 1 v zs.length (ints zs)) :
    Calls Try.prog 4 #[v] w fun e w' => e = .returned (.bool true) ∧ Later w w' := by
  rcases arr_cases hv with ⟨a, cap, rfl, h0, _, hmax⟩ | ⟨b, off, cap, rfl, hpos, hlen, hb, hcap, hmax, hcell⟩
  · obtain rfl : zs = [] := List.eq_nil_of_length_eq_zero h0
    go_enter Try.func4, Try.ntmps4
    go_wp2_with (first
      | (go_at_call 7; refine (awake7 _).mono ?_; rintro e w1 ⟨rfl, x1, rfl⟩)
      | (go_at_call 8; refine (run8_any _ [] _ (hv.latr x1) (by decide)).mono ?_; rintro e w1 ⟨a1, cap1, rfl, hl, hm1⟩))
    go_rounds 1
    go_ret
    exact ⟨rfl, ((Later.refl w).latr _).trans hl⟩
  by_cases h200 : 200 < zs.length
  · go_enter Try.func4, Try.ntmps4
    go_wp2_with (first
      | (go_at_call 7; refine (awake7 _).mono ?_; rintro e w1 ⟨rfl, x1, rfl⟩))
    go_ret
    exact ⟨rfl, (Later.refl w).latr _⟩
  have HC := hid hcell
  clear hcell
  go_enter Try.func4, Try.ntmps4
  go_wp2_with (first
    | (go_at_call 7; refine (awake7 _).mono ?_; rintro e w1 ⟨rfl, x1, rfl⟩)
    | (go_at_call 8
       refine (run8_pos _ zs _ (hv.latr x1) (by omega) hpos).mono ?_
       rintro e w1 ⟨rb, ro, rcap, rfl, hl, hrb, hrcap, hrmax, hr⟩
       have HR := hid hr
       clear hr))
  have hl1 : Later w w1 := ((Later.refl w).latr _).trans hl
  go_loopw [5, 6] (fun g i wr => ∃ k : Nat, k ≤ zs.length ∧ i = .int .i64 k ∧ g = .int .i64 (stN 0 0 (zs.take k) - 1) ∧ Later w1 wr) (fun _ i _ => zs.length - (intOf i).toNat)
  case atStart => exact ⟨0, Nat.zero_le _, rfl, rfl, Later.refl _⟩
  case round =>
    obtain ⟨k, hk, rfl, rfl, hlr⟩ := hrel
    by_cases hlt : k < zs.length
    · obtain ⟨wo, rfl⟩ : ∃ wo : World, wo = wr := ⟨_, rfl⟩
      have ht := told zs k hk
      have hF := ht.fresh zs[k]
      have hG := greatest_next zs k hlt
      have hg0 := ht.lo
      have hg1 := ht.hi
      have hRk := runB_at zs k 0 0 hlt
      have hRg := runB_getD zs k 0 0 hlt
      clear ht
      have hck : ∀ W, Later w1 W → W.cell? ⟨b, off + k, none⟩ = some (.int .i64 zs[k]) := fun W hW => ((hl1.trans hW).cell hb).trans (HC.out k _ (by simp [hlt]))
      have hrk : ∀ W, Later w1 W → W.cell? ⟨rb, ro + k, none⟩ = some (.bool (freshB (stN 0 0 (zs.take k)) (stS 0 0 (zs.take k)) zs[k])) := fun W hW => (hW.cell hrb).trans (HR.out k _ hRk)
      rw [hRg] at hG
      generalize freshB (stN 0 0 (zs.take k)) (stS 0 0 (zs.take k)) zs[k] = rk at *
      generalize hnx : stN 0 0 (zs.take k) = nx at *
      generalize hn : zs[k] = n at *
      clear hRk hRg hnx
      have HF := hid hF
      have HG := hid hG
      have HCK := hid hck
      have HRK := hid hrk
      clear hF hG hck hrk
      have HN := hid hn
      clear hn
      go_wp2_with (fail)
      go_loopw [7, 8] (fun c j wi => ∃ jj : Nat, jj ≤ k ∧ j = .int .i64 jj ∧ c = .bool (cameB zs (runB 0 0 zs) n jj) ∧ Later w1 wi) (fun _ j _ => k - (intOf j).toNat)
      case atStart => exact ⟨0, Nat.zero_le _, rfl, rfl, hlr⟩
      case round =>
        obtain ⟨jj, hj, rfl, rfl, hli⟩ := hrel
        by_cases hjlt : jj < k
        · have hck := HCK.out _ hli
          have hcj : wr.cell? ⟨b, off + jj, none⟩ = some (.int .i64 zs[jj]) := ((hl1.trans hli).cell hb).trans (HC.out jj _ (by simp))
          have hrj : wr.cell? ⟨rb, ro + jj, none⟩ = some (.bool ((runB 0 0 zs).getD jj false)) := by
            refine (hli.cell hrb).trans (HR.out jj _ ?_)
            have hjl : jj < (runB 0 0 zs).length := by rw [runB_length]; omega
            simp [bools, List.getD, hjl]
          have hs : cameB zs (runB 0 0 zs) n (jj + 1) = (cameB zs (runB 0 0 zs) n jj || (zs[jj] == n && (runB 0 0 zs).getD jj false)) := by
            simp [cameB, List.getD, show jj < zs.length by omega]
          have HS := hid hs
          clear hs
          have hbw : b < wr.heap.size := Nat.lt_of_lt_of_le hb (hl1.trans hli).size
          have hrw : rb < wr.heap.size := Nat.lt_of_lt_of_le hrb hli.size
          have i1 : (jj : Int) < (zs.length : Int) := by omega
          have i2 : (k : Int) < (zs.length : Int) := by omega
          generalize hc : cameB zs (runB 0 0 zs) n jj = c at *
          generalize (runB 0 0 zs).getD jj false = rj at *
          generalize zs[jj] = a at *
          clear hc
          have hway : c = true ∨ (c = false ∧ (a == n) = true) ∨ (c = false ∧ (a == n) = false) := by cases c <;> cases (a == n) <;> simp
          rcases hway with rfl | ⟨rfl, he⟩ | ⟨rfl, he⟩
          all_goals
            go_wp2_with (fail)
            refine wp_region_calm (by kernel_rfl) (by kernel_rfl) ?_
            repeat (go_big_quiet_step (fail))
            refine wpQuiet_nil ?_
            rintro _ ⟨x, rfl⟩
            go_wp2_with (fail)
            go_roundw
            case rel => exact ⟨jj + 1, by omega, by go_num, by rw [HS.out]; simp [*], hli.latr _⟩
            case measure => simp [intOf]; omega
        · obtain rfl : jj = k := by omega
          have hck := HCK.out _ hli
          have hrk := HRK.out _ hli
          have hbw : b < wr.heap.size := Nat.lt_of_lt_of_le hb (hl1.trans hli).size
          have hrw : rb < wr.heap.size := Nat.lt_of_lt_of_le hrb hli.size
          have i2 : (jj : Int) < (zs.length : Int) := by omega
          have hF := HF.out
          have HG' := HG
          clear HF HG HCK HRK
          generalize cameB zs (runB 0 0 zs) n jj = c at *
          have hway : (c = true ∧ rk = false) ∨ (c = false ∧ rk = true ∧ 0 ≤ n ∧ n ≤ 4611686018427387903) ∨ (c = false ∧ rk = false ∧ (n < 0 ∨ 4611686018427387904 ≤ n ∨ n ≤ nx - 65)) := by
            cases c <;> cases rk <;> simp at hF ⊢ <;> omega
          clear hF
          rcases hway with ⟨rfl, rfl⟩ | ⟨rfl, rfl, n0, n1⟩ | ⟨rfl, rfl, hno⟩
          all_goals
            go_wp2
            all_goals
              go_roundw
              case rel => exact ⟨jj + 1, by omega, by go_num, by rw [HG'.out]; simp, hli⟩
              case measure => simp [intOf]; omega
    · obtain rfl : k = zs.length := by omega
      go_wp2
      go_ret
      exact ⟨rfl, hl1.trans hlr⟩
end Go.Proofs.Ytlnjnjknhopjdaa
