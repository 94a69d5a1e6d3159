/- The walk of mac.Key: a key of a name. Of secrets and names of at most five hundred thousand bytes. -/
import Derived.Test.YtnidpncacgknkaaStrb
namespace Go.Proofs.Ytnidpncacgknkaa
open Go.RowKit
attribute [local go_sem] ite_max ite_min
attribute [local go_sem] conv_sb Lib.bytesWorld_size
attribute [local go_sem] h_lt1 h_lt2 h_lt3 h_lt4 h_lt5 h_lt6 h_eq1 h_qe1 h_eq2 h_qe2 h_eq3 h_qe3 h_eq4 h_qe4 h_eq5 h_qe5 h_eq6 h_qe6
set_option maxRecDepth 100000 in
set_option maxHeartbeats 4000000 in
theorem key14 (kv : Value) (key : List B8) (s : ByteArray) (w : World) (hk : Arr w 1 kv key.length (bl key)) (hks : Shape kv) (hlk : key.length ≤ 500000) (hls : s.size ≤ 500000) :
    Gives Try.prog 14 #[kv, .string s] w (bagg (hmac key (strBytes s))) := by
  apply gives_of
  have HK := hid hk
  obtain ⟨_, a, cap, rfl, hcap, _⟩ := hk
  (go_enter Try.func14, Try.ntmps14; go_wp2_with (fail))
  have hlW : Later (w.alloc (.cells z24 24)) (Lib.bytesWorld (w.alloc (.cells z24 24)) 5 s) := later_sb s _
  have hA := arr_sb s (w.alloc (.cells z24 24)) (by unfold maxLen; omega)
  have hR := (Blk.new w 24 z24).later hlW
  have hL := (((Later.refl w).alloc (.cells z24 24)).trans hlW)
  have hsz : (Lib.bytesWorld (w.alloc (.cells z24 24)) 5 s).heap.size = w.heap.size + 1 + 1 := by rw [Lib.bytesWorld_size]; simp
  rw [show (w.alloc (.cells z24 24)).heap.size = w.heap.size + 1 by simp] at hA
  have hf : [strBytes s].flatten = strBytes s := by simp
  have hsl := strBytes_len s
  generalize grownCap (w.alloc (.cells z24 24)) s.size 0 5 = gc at *
  generalize Lib.bytesWorld (w.alloc (.cells z24 24)) 5 s = W at *
  have hT : Texts (W.alloc (.cells #[.slice (some ⟨w.heap.size + 1, 0, none⟩) s.size gc] 22)) (.slice (some ⟨w.heap.size + 1 + 1, 0, none⟩) 1 1) [strBytes s] := by
    refine ⟨[.slice (some ⟨w.heap.size + 1, 0, none⟩) s.size gc], rfl, arr_new (xs := [.slice (some ⟨w.heap.size + 1, 0, none⟩) s.size gc]) (n := 1) (size := 1) hsz.symm rfl (by decide), fun i v t hv ht => ?_⟩
    match i, hv, ht with
    | 0, hv, ht =>
      simp at hv ht
      subst hv ht
      exact ⟨hA.later ((Later.refl _).alloc _), .inr ⟨_, _, _, rfl⟩⟩
    | i + 1, hv, _ => simp at hv
  refine (mac12 _ key _ _ _ (HK.out.later (hL.alloc _)) hks hT hlk (by rw [hf, hsl]; omega)).later.mono ?_
  rw [hf]
  rintro e W1 ⟨rfl, hl1⟩
  have hR1 := (hR.alloc (.cells #[.slice (some ⟨w.heap.size + 1, 0, none⟩) s.size gc] 22)).later hl1
  have ht1 := hR1.thereN 32 z24_size
  have hlm := hmac_len key (strBytes s)
  (try simp only [])
  (repeat go_step)
  exact fin_cell rfl rfl rfl (ret24 _ hlm (set24 _ hlm hR1 z24_size)) ⟨rfl, later_sets ((hL.alloc _).trans hl1) (Nat.le_refl _) _ _⟩
end Go.Proofs.Ytnidpncacgknkaa
