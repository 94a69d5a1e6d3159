/- The walk of sha.Sum: a text's hash. Of at most nine hundred thousand bytes. -/
import Derived.Test.YtnidpncacgknkaaDone
namespace Go.Proofs.Ytnidpncacgknkaa
open Go.RowKit
attribute [local go_sem] ite_max ite_min
attribute [local go_sem] h_lt1 h_lt2 h_lt3 h_lt4 h_lt5 h_lt6 h_eq1 h_qe1 h_eq2 h_qe2 h_eq3 h_qe3 h_eq4 h_qe4 h_eq5 h_qe5 h_eq6 h_qe6
theorem HashAt.zero {w : World} {g : Nat} (h : Blk w g 39 z39) : HashAt w g [] :=
  ⟨zero8, .slice none 0 0, [], false, h, Arr.nil _ _, .inl rfl, (fun b off n c hv _ => by injection hv with hv; cases hv), .inr ⟨rfl, rfl, rfl, rfl, rfl⟩⟩
theorem sha_len (l : List B8) : (sha l).length = 32 := bytesOf_len _
set_option maxRecDepth 100000 in
set_option maxHeartbeats 4000000 in
theorem sum17 (v : Value) (l : List B8) (w : World) (hv : Arr w 1 v l.length (bl l)) (hsh : Shape v) (hlen : l.length ≤ 900000) : Gives Try.prog 17 #[v] w (bagg (sha l)) := by
  apply gives_of
  have HV := hid hv
  obtain ⟨_, a, cap, rfl, _⟩ := hv
  (go_enter Try.func17, Try.ntmps17; go_wp2_with (fail))
  have hH : HashAt ((w.alloc (.cells z24 24)).alloc (.cells z39 39)) (w.heap.size + 1) [] := .zero (blk_new (by simp))
  have hO : Blk ((w.alloc (.cells z24 24)).alloc (.cells z39 39)) w.heap.size 24 z24 := (Blk.new w 24 _).alloc _
  refine (add19 (w.heap.size + 1) [] _ l _ hH (HV.out.later (by repeat (first | (with_reducible exact Later.refl _) | with_reducible apply Later.latr | with_reducible apply Later.alloc | with_reducible apply Later.drew | (with_reducible refine Later.set ?_ (by (simp; try omega)) _)))) hsh (arr_off HV.out (by omega)) (by simp; omega)).mono ?_
  rintro e W1 ⟨rfl, hw1, hh1⟩
  have hO1 := hw1.blk hO (by omega)
  have hL1 : Later w W1 := Later.wr (by repeat (first | (with_reducible exact Later.refl _) | with_reducible apply Later.latr | with_reducible apply Later.alloc | with_reducible apply Later.drew | (with_reducible refine Later.set ?_ (by (simp; try omega)) _))) hw1 (by omega)
  clear hw1 hH hO
  generalize w.heap.size + 1 = go at *
  go_wp2_with (fail)
  refine (done20 go l _ hh1 hlen).later.mono ?_
  rintro e W2 ⟨rfl, hl2⟩
  have hO2 := hO1.later hl2
  have ht := hO2.thereN 32 z24_size
  have hl3 := sha_len l
  (try simp only [])
  (repeat go_step)
  exact fin_cell rfl rfl rfl (ret24 _ hl3 (set24 _ hl3 hO2 z24_size)) ⟨rfl, later_sets (hL1.trans hl2) (Nat.le_refl _) _ _⟩
end Go.Proofs.Ytnidpncacgknkaa
