/- The walk of mac.Sum's closure: a hash that begins with the changed block. Of keys of at most sixty-four bytes. -/
import Derived.Test.YtnidpncacgknkaaBoxes
namespace Go.Proofs.Ytnidpncacgknkaa
open Go.RowKit
attribute [local go_sem] ite_max ite_min
attribute [local go_sem] h_lt1 h_lt2 h_lt3 h_lt4 h_lt5 h_lt6 h_eq1 h_qe1 h_eq2 h_qe2 h_eq3 h_qe3 h_eq4 h_qe4 h_eq5 h_qe5 h_eq6 h_qe6
/-- a byte of the changed block -/
def padAt (key : List B8) (x : B8) (i : Nat) : B8 := if i < key.length then x ^^^ key.getD i 0 else x
/-- the block, each byte of it changed -/
def padBy (key : List B8) (x : B8) : List B8 := (List.range 64).map (padAt key x)
theorem pad_len (key : List B8) (x : B8) : (padBy key x).length = 64 := by simp [padBy]
theorem pad_take (key : List B8) (x : B8) (k : Nat) (h : k < 64) : (padBy key x).take (k + 1) = (padBy key x).take k ++ [padAt key x k] := by
  rw [take_succ_ _ k (by rw [pad_len]; exact h)]
  congr 1
  simp [padBy]
set_option maxRecDepth 100000 in
set_option maxHeartbeats 8000000 in
theorem begun25 (by_ : B8) (p : Nat) (v : Value) (key : List B8) (w : World) (hlen : key.length ≤ 64) (hB : Blk w p 22 #[v]) (hv : Arr w 1 v key.length (bl key)) :
    Calls Try.prog 25 #[bb by_, .pointer (some ⟨p, 0, none⟩)] w fun e w' => ∃ g, e = .returned (.pointer (some ⟨g, 0, none⟩)) ∧ Later w w' ∧ w.heap.size ≤ g ∧ HashAt w' g (padBy key by_) := by
  obtain ⟨_, a, cap, rfl, hcap, hmax, hx⟩ := hv
  have HX := hid hx
  clear hx
  have hp := hB.lt
  have c0 : w.cell? ⟨p, 0, none⟩ = some (.slice a key.length cap) := hB.cell 0
  (go_enter Try.func25, Try.ntmps25; go_wp2_with (fail))
  go_loopw [9] (fun i wr => ∃ k : Nat, k ≤ 64 ∧ i = .int .i64 k ∧ Later w wr ∧ HashAt wr w.heap.size ((padBy key by_).take k)) (fun i _ => 64 - (intOf i).toNat)
  case atStart => exact ⟨0, Nat.zero_le _, rfl, by repeat (first | (with_reducible exact Later.refl _) | with_reducible apply Later.latr | with_reducible apply Later.alloc | with_reducible apply Later.drew | (with_reducible refine Later.set ?_ (by (simp; try omega)) _)), by rw [List.take_zero]; exact .zero (Blk.new w 39 _)⟩
  case round =>
    obtain ⟨k, hk, rfl, hl, hH⟩ := hrel
    have d0 : wr.cell? ⟨p, 0, none⟩ = some (.slice a key.length cap) := (hl.cell hp).trans c0
    have hlt := hH.lt
    by_cases hk64 : k < 64
    · have hd : decide ((k : Int) < 64) = true := decide_eq_true (by omega)
      have HT := hid (pad_take key by_ k hk64)
      have htl : ((padBy key by_).take k).length = k := by rw [List.length_take, pad_len]; omega
      by_cases hkk : k < key.length
      · have hd2 : decide ((k : Int) < (key.length : Int)) = true := decide_eq_true (by omega)
        obtain ⟨b, off, rfl, hb, hc⟩ := HX.out (by omega)
        have e0 : wr.cell? ⟨b, off + k, none⟩ = some (bb (key.getD k 0)) := (hl.cell hb).trans (hc k _ (by simp [bl, hkk]))
        have hpad : padAt key by_ k = by_ ^^^ key.getD k 0 := by unfold padAt; rw [if_pos hkk]
        rw [hpad] at HT
        clear hc hpad
        generalize key.getD k 0 = y at *
        go_wp2_with (fail)
        refine (add19 w.heap.size _ _ [by_ ^^^ y] _ (hH.later (by repeat (first | (with_reducible exact Later.refl _) | with_reducible apply Later.latr | with_reducible apply Later.alloc | with_reducible apply Later.drew | (with_reducible refine Later.set ?_ (by (simp; try omega)) _)))) (Arr.new wr 5 (bl [by_ ^^^ y]) 1 1 rfl (by decide)) (.inr ⟨_, _, _, rfl⟩) (off_new (b := wr.heap.size) hlt) (by rw [htl]; simp; omega)).mono ?_
        rintro e W2 ⟨rfl, hw2, hh2⟩
        have HL2 := hid (Later.wr (a := w) (by repeat (first | (with_reducible exact Later.refl _) | (with_reducible exact hl) | with_reducible apply Later.latr | with_reducible apply Later.alloc | with_reducible apply Later.drew | (with_reducible refine Later.set ?_ (by (simp; try omega)) _))) hw2 (Nat.le_refl _))
        go_wp2_with (fail)
        go_roundw
        case rel => exact ⟨k + 1, by omega, by go_num, HL2.out, by rw [HT.out]; exact hh2⟩
        case measure => simp [intOf]; omega
      · have hd2 : decide ((k : Int) < (key.length : Int)) = false := decide_eq_false (by omega)
        have hpad : padAt key by_ k = by_ := by unfold padAt; rw [if_neg hkk]
        rw [hpad] at HT
        clear hpad
        go_wp2_with (fail)
        refine (add19 w.heap.size _ _ [by_] _ (hH.later (by repeat (first | (with_reducible exact Later.refl _) | with_reducible apply Later.latr | with_reducible apply Later.alloc | with_reducible apply Later.drew | (with_reducible refine Later.set ?_ (by (simp; try omega)) _)))) (Arr.new wr 5 (bl [by_]) 1 1 rfl (by decide)) (.inr ⟨_, _, _, rfl⟩) (off_new (b := wr.heap.size) hlt) (by rw [htl]; simp; omega)).mono ?_
        rintro e W2 ⟨rfl, hw2, hh2⟩
        have HL2 := hid (Later.wr (a := w) (by repeat (first | (with_reducible exact Later.refl _) | (with_reducible exact hl) | with_reducible apply Later.latr | with_reducible apply Later.alloc | with_reducible apply Later.drew | (with_reducible refine Later.set ?_ (by (simp; try omega)) _))) hw2 (Nat.le_refl _))
        go_wp2_with (fail)
        go_roundw
        case rel => exact ⟨k + 1, by omega, by go_num, HL2.out, by rw [HT.out]; exact hh2⟩
        case measure => simp [intOf]; omega
    · obtain rfl : k = 64 := by omega
      rw [List.take_of_length_le (by rw [pad_len]; omega)] at hH
      have HL := hid hl
      clear hl
      go_wp2_with (fail)
      go_ret
      exact ⟨_, rfl, HL.out, Nat.le_refl _, hH⟩
end Go.Proofs.Ytnidpncacgknkaa
