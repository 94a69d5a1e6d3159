/- The walks of mac.Tag, mac.Key and mac.Equal. Of keys, and of texts together, of at most five hundred thousand bytes. -/
import Derived.Test.YtnidpncacgknkaaMac
namespace Go.Proofs.Ytnidpncacgknkaa
open Go.RowKit
attribute [local go_sem] ite_max ite_min
attribute [local go_sem] h_lt1 h_lt2 h_lt3 h_lt4 h_lt5 h_lt6 h_eq1 h_qe1 h_eq2 h_qe2 h_eq3 h_qe3 h_eq4 h_qe4 h_eq5 h_qe5 h_eq6 h_qe6
@[go_sem] theorem arr26 (a : Addr) (c : Nat) (w : World) : (Instr.arrayAt 26 (.slice (some a) 16 c)).run Try.prog w = .ok (.pointer (some a)) w := by
  simp [Instr.arrayAt, run_underlying Try.underlying26]
theorem hmac_len (key text : List B8) : (hmac key text).length = 32 := sha_len _
theorem equal15 (a b : List B8) (w : World) (ha : a.length = 16) (hb : b.length = 16) : Gives Try.prog 15 #[bagg a, bagg b] w (.bool (same a b)) := by
  apply gives_of
  have B1 : Blk ((w.alloc (.cells (bl a).toArray 26)).alloc (.cells (bl b).toArray 26)) w.heap.size 26 (bl a).toArray := (Blk.new w 26 _).alloc _
  have B2 : Blk ((w.alloc (.cells (bl a).toArray 26)).alloc (.cells (bl b).toArray 26)) (w.heap.size + 1) 26 (bl b).toArray := blk_new (by simp)
  have T1 := B1.there0 16 ((bl_len _).trans ha)
  have A1 := B1.agg 16 ((bl_len _).trans ha)
  change _ = bagg a at A1
  have T2 := B2.there0 16 ((bl_len _).trans hb)
  have A2 := B2.agg 16 ((bl_len _).trans hb)
  change _ = bagg b at A2
  (go_enter Try.func15, Try.ntmps15)
  (repeat go_step)
  go_ret
  exact ⟨rfl, by repeat (first | (with_reducible exact Later.refl _) | with_reducible apply Later.latr | with_reducible apply Later.alloc | with_reducible apply Later.drew | (with_reducible refine Later.set ?_ (by (simp; try omega)) _))⟩
set_option maxRecDepth 100000 in
set_option maxHeartbeats 4000000 in
theorem tag13 (kv : Value) (key : List B8) (tv : Value) (ts : List (List B8)) (w : World) (hk : Arr w 1 kv key.length (bl key)) (hks : Shape kv) (ht : Texts w tv ts) (hlk : key.length ≤ 500000) (hlt : ts.flatten.length ≤ 500000) :
    Gives Try.prog 13 #[kv, tv] w (bagg ((hmac key ts.flatten).take 16)) := by
  apply gives_of
  have HK := hid hk
  have HT := hid ht
  obtain ⟨_, a, cap, rfl, hcap, _⟩ := hk
  obtain ⟨vs, hvl, hva, hvs⟩ := ht
  obtain ⟨_, ta, tcap, rfl, htcap, _⟩ := hva
  (go_enter Try.func13, Try.ntmps13; go_wp2_with (fail))
  refine (mac12 _ key _ ts _ (HK.out.later (by repeat (first | (with_reducible exact Later.refl _) | with_reducible apply Later.latr | with_reducible apply Later.alloc | with_reducible apply Later.drew | (with_reducible refine Later.set ?_ (by (simp; try omega)) _)))) hks (HT.out.later (by repeat (first | (with_reducible exact Later.refl _) | with_reducible apply Later.latr | with_reducible apply Later.alloc | with_reducible apply Later.drew | (with_reducible refine Later.set ?_ (by (simp; try omega)) _)))) hlk hlt).later.mono ?_
  rintro e W1 ⟨rfl, hl1⟩
  have hlm := hmac_len key ts.flatten
  generalize hm : hmac key ts.flatten = m at *
  have ht1 := (Blk.new W1 24 z24).thereN 32 z24_size
  (try simp only [])
  (iterate 8 go_step)
  obtain ⟨U, hU⟩ : ∃ U, U = (W1.alloc (.cells z24 24)).setCells W1.heap.size 0 (bl m) := ⟨_, rfl⟩
  have HB : Blk U W1.heap.size 24 (bl m).toArray := by rw [hU]; exact set24 _ hlm (Blk.new W1 24 _) z24_size
  have hR : Blk U w.heap.size 26 z26 := by rw [hU]; exact far_sets (((Blk.new w 26 z26).later hl1).alloc _) (by have := ((Blk.new w 26 z26).later hl1).lt; omega) _ _
  have hL : Later w U := by rw [hU]; exact later_sets ((Later.trans (a := w) (by repeat (first | (with_reducible exact Later.refl _) | with_reducible apply Later.latr | with_reducible apply Later.alloc | with_reducible apply Later.drew | (with_reducible refine Later.set ?_ (by (simp; try omega)) _))) hl1).alloc _) (by have := (Later.trans (a := w) ((Later.refl w).alloc (.cells z26 26)) hl1).size; omega) _ _
  rw [← hU]
  have hlt' : (m.take 16).length = 16 := by simp [hlm]
  have T1 := HB.there (o := 0) (n := 16) (by simp [bl, hlm])
  have A1 : aggAt U W1.heap.size 0 16 = bagg (m.take 16) := by
    unfold aggAt
    rw [HB.cells 0 16 (bl (m.take 16)) (by simp [bl, List.map_take]) ((bl_len _).trans hlt')]
    rfl
  have T2 := hR.thereN 16 z26_size
  clear hU ht1
  generalize W1.heap.size = b5 at *
  (try simp only [])
  (repeat go_step)
  exact fin_cell rfl rfl rfl (ret26 _ hlt' (set26 _ hlt' hR z26_size)) ⟨by rw [hm], later_sets hL (Nat.le_refl _) _ _⟩
end Go.Proofs.Ytnidpncacgknkaa
