/- The walk of the statements' head (awake): it answers true. No condition. -/
import Derived.Test.YtlnjnjknhopjdaaRun
import Derived.Deep.RegionWith
namespace Go.Proofs.Ytlnjnjknhopjdaa
open Go.RowKit

theorem run8_pos (v : Value) (zs : List Int) (w : World) (hv : Arr w 1 v zs.length (ints zs)) (h1000 : zs.length ≤ 1000) (hpos : 0 < zs.length) :
    Calls Try.prog 8 #[v] w fun e w' => ∃ b off cap, e = .returned (.slice (some ⟨b, off, none⟩) zs.length cap) ∧ Later w w' ∧ b < w'.heap.size ∧ zs.length ≤ cap ∧ cap ≤ 9223372036854775807 ∧
      ∀ j u, (bools (runB 0 0 zs))[j]? = some u → w'.cell? ⟨b, off + j, none⟩ = some u :=
  (run8 v zs w hv h1000).mono fun e w' ⟨v', he, hl, ha⟩ => by
    rcases arr_cases ha with ⟨a, cap, _, h0, _⟩ | ⟨b, off, cap, h1, _, _, hb, hc, hm, hcell⟩
    · omega
    · exact ⟨b, off, cap, by rw [he, h1], hl, hb, hc, hm, hcell⟩

theorem awake_run : runB 0 0 [5, 5, 3, 70, 6, 7] = [true, false, true, true, false, true] := by decide +kernel
theorem awake_fresh : freshB 0 0 0 = true := by decide +kernel
theorem awake_neg : freshB 0 0 (-1) = false := by decide +kernel
theorem awake_mark : markN 0 0 2 = 3 ∧ markS 0 0 2 = 1 := by decide +kernel

theorem call_fresh0 (w : World) : Gives Try.prog 12 #[.agg #[.int .i64 0, .int .u64 0], .int .i64 0] w (.bool true) := by
  have h := fresh12 0 0 0 w (by decide)
  rw [awake_fresh] at h
  exact h
theorem call_neg (w : World) : Gives Try.prog 12 #[.agg #[.int .i64 0, .int .u64 0], .int .i64 (-1)] w (.bool false) := by
  have h := fresh12 0 0 (-1) w (by decide)
  rw [awake_neg] at h
  exact h
theorem call_mark (w : World) : Gives Try.prog 11 #[.agg #[.int .i64 0, .int .u64 0], .int .i64 2] w (.agg #[.int .i64 3, .int .u64 1]) := by
  have h := mark11 0 0 2 w (by decide)
  rw [awake_mark.1, awake_mark.2] at h
  exact h

set_option maxHeartbeats 400000 in
theorem awake7 (w : World) : Gives Try.prog 7 #[] w (.bool true) := by
  apply gives_of
  go_enter Try.func7, Try.ntmps7
  go_wp2_with (first
    | (go_at_call 8
       refine (run8_pos _ [5, 5, 3, 70, 6, 7] _ (Arr.new w 3 (ints [5, 5, 3, 70, 6, 7]) 6 1 rfl (by decide)) (by decide) (by decide)).mono ?_
       rintro e w1 ⟨b, off, cap, rfl, hl, hb, hcap, hmax, hc⟩
       rw [awake_run] at hc
       have c0 : w1.cell? ⟨b, off, none⟩ = some (.bool true) := hc 0 _ rfl
       have c1 := hc 1 _ rfl
       have c2 := hc 2 _ rfl
       have c3 := hc 3 _ rfl
       have c4 := hc 4 _ rfl
       have c5 := hc 5 _ rfl
       clear hc))
  refine (call_fresh0 _).mono ?_
  rintro e w2 ⟨rfl, x2, rfl⟩
  go_wp2_with (fail)
  refine (call_neg _).mono ?_
  rintro e w3 ⟨rfl, x3, rfl⟩
  go_wp2_with (fail)
  refine (call_mark _).mono ?_
  rintro e w4 ⟨rfl, x4, rfl⟩
  go_wp2_with (fail)
  go_ret
  exact ⟨rfl, (((Later.refl w).alloc _).trans hl).latr _⟩
end Go.Proofs.Ytlnjnjknhopjdaa
