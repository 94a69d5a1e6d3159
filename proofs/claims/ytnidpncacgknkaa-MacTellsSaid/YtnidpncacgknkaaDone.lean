/- The walk of Done: the hash of all that was added. Of at most nine hundred thousand bytes. -/
import Derived.Test.YtnidpncacgknkaaHash
namespace Go.Proofs.Ytnidpncacgknkaa
open Go.RowKit
attribute [local go_sem] ite_max ite_min
attribute [local go_sem ↓] Go.wp_at_zero Go.wp_at_succ
attribute [local go_sem] h_lt1 h_lt2 h_lt3 h_lt4 h_lt5 h_lt6 h_eq1 h_qe1 h_eq2 h_qe2 h_eq3 h_qe3 h_eq4 h_qe4 h_eq5 h_qe5 h_eq6 h_qe6
theorem HashAt.later {w w' : World} {g : Nat} {t : List B8} (h : HashAt w g t) (hl : Later w w') : HashAt w' g t := by
  obtain ⟨s, v, r, b, h1, h2, h3, h4, h5⟩ := h
  exact ⟨s, v, r, b, h1.later hl, h2.later hl, h3, h4, h5⟩
theorem HashAt.wr {w w' : World} {g g' : Nat} {t : List B8} (h : HashAt w g t) (hw : Wr w w' g') (hne : g ≠ g') (ho : ∀ s v n b, Blk w g 39 (hl s v n b).toArray → offB v g') : HashAt w' g t := by
  obtain ⟨s, v, r, b, h1, h2, h3, h4, h5⟩ := h
  exact ⟨s, v, r, b, hw.blk h1 hne, h2.wr hw (ho _ _ _ _ h1), h3, h4, h5⟩
/-- the rest of a hash, as its cell says it -/
theorem HashAt.rest {w : World} {g : Nat} {t : List B8} (h : HashAt w g t) : ∃ x c, w.cell? ⟨g, 8, none⟩ = some (.slice x (t.length % 64) c) := by
  obtain ⟨s, v, r, b, h1, h2, h3, h4, h5⟩ := h
  obtain ⟨_, x, c, rfl, _⟩ := h2
  have hr : r.length = t.length % 64 := by
    rcases h5 with ⟨_, _, rfl⟩ | ⟨_, rfl, _, _, rfl⟩
    · exact left_len t
    · rfl
  exact ⟨x, c, by rw [← hr]; exact h1.cell 8⟩
theorem HashAt.many {w : World} {g : Nat} {t : List B8} (h : HashAt w g t) : w.cell? ⟨g, 9, none⟩ = some (.int .i64 t.length) := by
  obtain ⟨s, v, r, b, h1, _⟩ := h
  exact h1.cell 9
theorem HashAt.lt {w : World} {g : Nat} {t : List B8} (h : HashAt w g t) : g < w.heap.size := by
  obtain ⟨s, v, r, b, h1, _⟩ := h
  exact h1.lt
/-- how many bytes a hash has -/
def manyAt (w : World) (g : Nat) : Nat := match w.cell? ⟨g, 9, none⟩ with | some (.int _ n) => n.toNat | _ => 0
theorem manyAt_of {w : World} {g : Nat} {t : List B8} (h : HashAt w g t) : manyAt w g = t.length := by unfold manyAt; rw [h.many]; rfl
theorem off_new {g b n c : Nat} (h : g < b) : offB (.slice (some ⟨b, 0, none⟩) n c) g := by
  intro b' off m c' hv _
  injection hv with hv
  injection hv with hv
  injection hv with hv
  omega
theorem zeros_ne (n k : Nat) (hk : k < zeros n) : (n + 1 + k) % 64 ≠ 56 := by unfold zeros at hk; omega
theorem zeros_eq (n : Nat) : (n + 1 + zeros n) % 64 = 56 := by unfold zeros; omega
theorem zeros_le (n : Nat) : zeros n < 64 := by unfold zeros; omega
theorem len_byte (n s : Nat) : ((8 : Int) * (n : Int)) / ((2 ^ s : Nat) : Int) % (256 : Int) = bn (BitVec.ofNat 8 ((8 * n) >>> s)) := by
  unfold bn
  rw [BitVec.toNat_ofNat, Nat.shiftRight_eq_div_pow, show ((8 : Int) * (n : Int)) = ((8 * n : Nat) : Int) by simp, ← Int.natCast_ediv]
  omega
theorem len_byte0 (n : Nat) : ((8 : Int) * (n : Int)) % (256 : Int) = bn (BitVec.ofNat 8 ((8 * n) >>> 0)) := by
  have := len_byte n 0
  rw [show ((2 ^ 0 : Nat) : Int) = 1 from rfl, Int.ediv_one] at this
  exact this
theorem len_small (n s : Nat) (h : ((8 : Int) * (n : Int)) / ((2 ^ s : Nat) : Int) < (256 : Int)) : ((8 : Int) * (n : Int)) / ((2 ^ s : Nat) : Int) = bn (BitVec.ofNat 8 ((8 * n) >>> s)) := by
  rw [← len_byte, Int.emod_eq_of_lt (Int.ediv_nonneg (by omega) (Int.natCast_nonneg _)) h]
/-- a byte of a hash -/
def byteAt (s : S8) (i : Nat) : B8 := ((s.list.getD (i / 4) 0) >>> (24 - 8 * (i % 4))).setWidth 8
theorem bytesOf_eq (s : S8) : bytesOf s = (List.range 32).map (byteAt s) := rfl
def ocells (s : S8) (k : Nat) : Array Value := ((List.range 32).map fun j => if j < k then bb (byteAt s j) else bb 0#8).toArray
theorem oc_size (s : S8) (k : Nat) : (ocells s k).size = 32 := by simp [ocells]
theorem oc_at (s : S8) {k : Nat} (hk : k < 32) : (ocells s k)[k]? = some (bb 0#8) := by simp [ocells, hk]
theorem oc_set (s : S8) {k : Nat} (hk : k < 32) (x : B8) (hx : x = byteAt s k) : (ocells s k).setIfInBounds k (bb x) = ocells s (k + 1) := by
  subst hx
  apply Array.ext_getElem?
  intro j
  by_cases hj : j < 32
  · by_cases h : k = j
    · subst h
      rw [Array.getElem?_setIfInBounds_self_of_lt (by rw [oc_size]; exact hk)]
      simp [ocells, hk]
    · rw [Array.getElem?_setIfInBounds_ne h]
      simp only [ocells, List.getElem?_toArray, List.getElem?_map, List.getElem?_range hj, Option.map_some]
      by_cases hjk : j < k
      · rw [if_pos hjk, if_pos (by omega)]
      · rw [if_neg hjk, if_neg (by omega)]
  · rw [Array.getElem?_eq_none (by simp [oc_size]; omega), Array.getElem?_eq_none (by simp [oc_size]; omega)]
theorem oc_zero (s : S8) : z24 = ocells s 0 := by
  apply Array.ext_getElem?
  intro j
  by_cases hj : j < 32
  · have e : z24[j]? = some (bb 0#8) := by
      unfold z24 bl
      rw [List.getElem?_toArray, List.getElem?_map, List.getElem?_replicate_of_lt hj]
      rfl
    rw [e]
    simp [ocells, hj]
  · rw [Array.getElem?_eq_none (by rw [z24_size]; omega), Array.getElem?_eq_none (by rw [oc_size]; omega)]
theorem oc_full (s : S8) : ocells s 32 = (bl (bytesOf s)).toArray := by
  rw [bytesOf_eq, bl, List.map_map]
  unfold ocells
  congr 1
theorem bytesOf_len (s : S8) : (bytesOf s).length = 32 := by simp [bytesOf]
theorem u_shr24 (a : W32) : un a / (16777216 : Int) = un (a >>> 24) := (w_shr a 24).symm
theorem u_shr16 (a : W32) : un a / (65536 : Int) = un (a >>> 16) := (w_shr a 16).symm
theorem u_shr8 (a : W32) : un a / (256 : Int) = un (a >>> 8) := (w_shr a 8).symm
theorem u_byte (a : W32) : un a % (256 : Int) = bn (a.setWidth 8) := by
  have := a.isLt
  unfold un bn
  rw [BitVec.toNat_setWidth]
  omega
attribute [local go_sem] u_shr24 u_shr16 u_shr8 u_byte
theorem HashAt.full {w : World} {g : Nat} {t : List B8} (h : HashAt w g t) (hne : t ≠ []) : ∃ v n b, Blk w g 39 (hl (state t) v n b).toArray := by
  obtain ⟨s, v, r, b, h1, _, _, _, ⟨_, rfl, _⟩ | ⟨_, rfl, _⟩⟩ := h
  · exact ⟨_, _, _, h1⟩
  · exact absurd rfl hne
theorem sl_at {w : World} {g : Nat} {s : S8} {v : Value} {n : Int} {b : Bool} (h : Blk w g 39 (hl s v n b).toArray) : ∀ k, k < 8 → w.cell? ⟨g, k, none⟩ = some (uv (s.list.getD k 0))
  | 0, _ => h.cell 0
  | 1, _ => h.cell 1
  | 2, _ => h.cell 2
  | 3, _ => h.cell 3
  | 4, _ => h.cell 4
  | 5, _ => h.cell 5
  | 6, _ => h.cell 6
  | 7, _ => h.cell 7
  | n + 8, h => absurd h (by omega)
set_option maxRecDepth 100000 in
set_option maxHeartbeats 8000000 in
theorem done20 (g : Nat) (t : List B8) (w : World) (hH : HashAt w g t) (hlen : t.length ≤ 900000) : Gives Try.prog 20 #[.pointer (some ⟨g, 0, none⟩)] w (bagg (sha t)) := by
  apply gives_of
  obtain ⟨s, rv, r, begun, hB, hA, hS, hO, hcase⟩ := hH
  have HA := hid hA
  obtain ⟨_, ra, rcap, rfl, hrcap, hrmax, _⟩ := hA
  clear hrmax
  have HC := hid hcase
  clear hcase
  have hg := hB.lt
  obtain ⟨w2, hw2⟩ : ∃ w2, w2 = (w.alloc (.cells z24 24)).alloc (.cells z39 39) := ⟨_, rfl⟩
  have B2 : Blk ((w.alloc (.cells z24 24)).alloc (.cells z39 39)) g 39 (hl s (.slice ra r.length rcap) t.length begun).toArray := (hB.alloc _).alloc _
  have ht1 := B2.there0 11 rfl
  have ha1 := B2.agg 11 rfl
  change _ = hagg s (.slice ra r.length rcap) t.length begun at ha1
  have B3 : Blk ((w.alloc (.cells z24 24)).alloc (.cells z39 39)) (w.heap.size + 1) 39 z39 := blk_new (by simp)
  have ht2 := B3.thereN 11 z39_size
  (go_enter Try.func20, Try.ntmps20)
  (iterate 42 go_step)
  obtain ⟨X, hX⟩ : ∃ X, X = ((w.alloc (.cells z24 24)).alloc (.cells z39 39)).setCells (w.heap.size + 1) 0 (hl s (.slice ra r.length rcap) t.length begun) := ⟨_, rfl⟩
  have HLX : Hid (Later w X) := hid (by rw [hX]; exact later_sets (by repeat (first | (with_reducible exact Later.refl _) | with_reducible apply Later.latr | with_reducible apply Later.alloc | with_reducible apply Later.drew | (with_reducible refine Later.set ?_ (by (simp; try omega)) _))) (by omega) _ _)
  have HX : Hid (HashAt X (w.heap.size + 1) t) := hid (by
    refine ⟨s, _, r, begun, by rw [hX]; exact set39 s _ _ _ B3 z39_size, HA.out.later HLX.out, hS, arr_off HA.out (by omega), HC.out⟩)
  have HOut : Hid (Blk X w.heap.size 24 z24) := hid (by rw [hX]; exact far_sets ((Blk.new w 24 _).alloc _) (by omega) _ _)
  rw [← hX]
  clear hX B2 B3 ht1 ha1 ht2 hB HC HA hS hO
  generalize hgo : w.heap.size + 1 = go at *
  have c9 := HX.out.many
  have hlt := HX.out.lt
  go_wp2_with (fail)
  refine (add19 go t _ [128#8] _ (HX.out.later (by repeat (first | (with_reducible exact Later.refl _) | with_reducible apply Later.latr | with_reducible apply Later.alloc | with_reducible apply Later.drew | (with_reducible refine Later.set ?_ (by (simp; try omega)) _)))) (Arr.new X 5 (bl [128#8]) 1 1 rfl (by decide)) (.inr ⟨_, _, _, rfl⟩) (off_new (by simpa using hlt)) (by simp; omega)).mono ?_
  rintro e W1 ⟨rfl, hw1, hh1⟩
  have HW1 := hid (((wr_refl X go).alloc _).step hw1)
  have HH1 := hid hh1
  clear hw1 hh1 c9 hlt
  go_wp2_with (fail)
  go_loopw [] (fun wr => ∃ k : Nat, k ≤ zeros t.length ∧ Wr X wr go ∧ HashAt wr go (t ++ [128#8] ++ List.replicate k 0#8)) (fun wr => 2000000 - manyAt wr go)
  case atStart => exact ⟨0, Nat.zero_le _, HW1.out, by simpa using HH1.out⟩
  case round =>
    obtain ⟨k, hk, hWr, hH⟩ := hrel
    obtain ⟨x, c, c8⟩ := hH.rest
    have hT : (t ++ [128#8] ++ List.replicate k 0#8).length = t.length + 1 + k := by simp; omega
    have hz := zeros_le t.length
    rw [hT] at c8
    have hlt := hH.lt
    by_cases hkz : k < zeros t.length
    · have hne := zeros_ne t.length k hkz
      generalize (t.length + 1 + k) % 64 = m at *
      have hm1 : ((m : Int) == 56) = false := by simp; omega
      have hm2 : ((m : Int) = 56) = False := by simp only [eq_iff_iff, iff_false]; omega
      go_wp2_with (fail)
      refine (add19 go _ _ [0#8] _ (hH.later (by repeat (first | (with_reducible exact Later.refl _) | with_reducible apply Later.latr | with_reducible apply Later.alloc | with_reducible apply Later.drew | (with_reducible refine Later.set ?_ (by (simp; try omega)) _)))) (Arr.new wr 5 (bl [0#8]) 1 1 rfl (by decide)) (.inr ⟨_, _, _, rfl⟩) (off_new (by simpa using hlt)) (by rw [hT]; simp; omega)).mono ?_
      rintro e W2 ⟨rfl, hw2, hh2⟩
      go_wp2_with (fail)
      refine ⟨⟨k + 1, by omega, (hWr.alloc _).step hw2, ?_⟩, ?_⟩
      · rw [List.replicate_succ', ← List.append_assoc]
        exact hh2
      · rw [manyAt_of hh2, manyAt_of hH]
        simp
        omega
    · obtain rfl : k = zeros t.length := by omega
      have he := zeros_eq t.length
      rw [he] at c8
      have HW2 := hid hWr
      have HH2 := hid hH
      have HP : Hid (t ++ [128#8] ++ List.replicate (zeros t.length) 0#8 ++ lenBytes t.length = padded t) := hid rfl
      generalize t ++ [128#8] ++ List.replicate (zeros t.length) 0#8 = T1 at *
      have hT1 : T1.length ≤ 1000000 - 100 := by omega
      clear hWr hH hT he HW1 HH1 hz
      go_wp2_with (fail)
      clear c8 hlt
      obtain ⟨wq, rfl⟩ : ∃ wq : World, wq = wr := ⟨_, rfl⟩
      go_loopw [5] (fun sh wr => ∃ k : Nat, k ≤ 8 ∧ sh = .int .i64 (56 - 8 * (k : Int)) ∧ Wr X wr go ∧ HashAt wr go (T1 ++ (lenBytes t.length).take k)) (fun sh _ => (intOf sh + 8).toNat)
      case atStart => exact ⟨0, Nat.zero_le _, rfl, HW2.out, by simpa using HH2.out⟩
      case round =>
        obtain ⟨k, hk, rfl, hWr, hH⟩ := hrel
        have hlt := hH.lt
        have hTk : (T1 ++ (lenBytes t.length).take k).length ≤ 1000000 - 50 := by simp [lenBytes]; omega
        have l7 : ((8 : Int) * (t.length : Int)) / (72057594037927936 : Int) = bn (BitVec.ofNat 8 ((8 * t.length) >>> 56)) := len_small t.length 56 (by have : ((2 ^ 56 : Nat) : Int) = 72057594037927936 := rfl; rw [this]; omega)
        have l6 : ((8 : Int) * (t.length : Int)) / (281474976710656 : Int) = bn (BitVec.ofNat 8 ((8 * t.length) >>> 48)) := len_small t.length 48 (by have : ((2 ^ 48 : Nat) : Int) = 281474976710656 := rfl; rw [this]; omega)
        have l5 : ((8 : Int) * (t.length : Int)) / (1099511627776 : Int) = bn (BitVec.ofNat 8 ((8 * t.length) >>> 40)) := len_small t.length 40 (by have : ((2 ^ 40 : Nat) : Int) = 1099511627776 := rfl; rw [this]; omega)
        have l4 : ((8 : Int) * (t.length : Int)) / (4294967296 : Int) = bn (BitVec.ofNat 8 ((8 * t.length) >>> 32)) := len_small t.length 32 (by have : ((2 ^ 32 : Nat) : Int) = 4294967296 := rfl; rw [this]; omega)
        have l3 : ((8 : Int) * (t.length : Int)) / (16777216 : Int) = bn (BitVec.ofNat 8 ((8 * t.length) >>> 24)) := len_small t.length 24 (by have : ((2 ^ 24 : Nat) : Int) = 16777216 := rfl; rw [this]; omega)
        have l2 : ((8 : Int) * (t.length : Int)) / (65536 : Int) = bn (BitVec.ofNat 8 ((8 * t.length) >>> 16)) := len_small t.length 16 (by have : ((2 ^ 16 : Nat) : Int) = 65536 := rfl; rw [this]; omega)
        have l1 : ((8 : Int) * (t.length : Int)) / (256 : Int) % (256 : Int) = bn (BitVec.ofNat 8 ((8 * t.length) >>> 8)) := len_byte t.length 8
        have l0 := len_byte0 t.length
        rcases (show k = 0 ∨ k = 1 ∨ k = 2 ∨ k = 3 ∨ k = 4 ∨ k = 5 ∨ k = 6 ∨ k = 7 ∨ k = 8 by omega) with rfl | rfl | rfl | rfl | rfl | rfl | rfl | rfl | rfl
        case inr.inr.inr.inr.inr.inr.inr.inr =>
          have HW3 := hid hWr
          have HP3 : T1 ++ (lenBytes t.length).take 8 = padded t := HP.out
          rw [HP3] at hH
          obtain ⟨v3, n3, b3, hB3⟩ := hH.full (by rw [← HP3]; simp [lenBytes])
          have HB3 := hid hB3
          have HOut3 := hid (hWr.blk HOut.out (by omega))
          have HL3 := hid (HLX.out.wr hWr (by omega))
          have hsha : sha t = bytesOf (state (padded t)) := rfl
          generalize state (padded t) = s3 at *
          clear hWr hH hB3 l7 l6 l5 l4 l3 l2 l1 l0
          rw [show (56 - 8 * ((8 : Nat) : Int)) = -8 from rfl]
          go_wp2_with (fail)
          obtain ⟨wp, rfl⟩ : ∃ wp : World, wp = wr := ⟨_, rfl⟩
          go_loopw [33] (fun i wr => ∃ k : Nat, k ≤ 32 ∧ i = .int .i64 k ∧ Wr wp wr w.heap.size ∧ Blk wr w.heap.size 24 (ocells s3 k)) (fun i _ => 32 - (intOf i).toNat)
          case atStart => exact ⟨0, Nat.zero_le _, rfl, wr_refl _ _, by rw [← oc_zero]; exact HOut3.out⟩
          case round =>
            obtain ⟨k, hk, rfl, hWr, hB⟩ := hrel
            by_cases hk32 : k < 32
            · have hd : decide ((k : Int) < 32) = true := decide_eq_true (by omega)
              obtain ⟨a, b, hab, ha8, hb4⟩ : ∃ a b : Nat, k = 4 * a + b ∧ a < 8 ∧ b < 4 := ⟨k / 4, k % 4, by omega, by omega, by omega⟩
              have ca := sl_at (hWr.blk HB3.out (by omega)) a ha8
              have fo := hB.frozen k
              have co : wr.cell? ⟨w.heap.size, k, none⟩ = some (bb 0#8) := by rw [hB.cell]; exact oc_at s3 hk32
              have hby : byteAt s3 k = ((s3.list.getD a 0) >>> (24 - 8 * b)).setWidth 8 := by
                unfold byteAt
                rw [show k / 4 = a by omega, show k % 4 = b by omega]
              have hoc := fun x hx => hid (oc_set s3 hk32 x hx)
              generalize s3.list.getD a 0 = y at *
              have q1 : (k : Int) / 4 = (a : Int) := by omega
              have q2 : Int.tdiv (k : Int) 4 = (a : Int) := by rw [Int.tdiv_eq_ediv_of_nonneg (by omega)]; exact q1
              have q3 : (k : Int) % 4 = (b : Int) := by omega
              have q4 : Int.tmod (k : Int) 4 = (b : Int) := by rw [Int.tmod_eq_emod_of_nonneg (by omega)]; exact q3
              clear hab
              have hgo2 : go < wr.heap.size := (hWr.blk HB3.out (by omega)).lt
              rcases (show b = 0 ∨ b = 1 ∨ b = 2 ∨ b = 3 by omega) with rfl | rfl | rfl | rfl
              all_goals
                go_wp2_with (fail)
                refine ⟨⟨k + 1, by omega, by go_num, hWr.set k _, ?_⟩, by simp [intOf]; omega⟩
                exact (hB.set_ k _).cast (hoc _ hby.symm).out
            · obtain rfl : k = 32 := by omega
              rw [oc_full] at hB
              have hLe := HL3.out.wr hWr (Nat.le_refl _)
              have ht1 := hB.there0 32 ((bl_len _).trans (bytesOf_len s3))
              have ha1 := hB.agg 32 ((bl_len _).trans (bytesOf_len s3))
              change _ = bagg (bytesOf s3) at ha1
              have hl3 := bytesOf_len s3
              rw [show ((32 : Nat) : Int) = 32 from rfl]
              (try simp only [])
              (repeat go_step)
              exact fin_cell rfl rfl rfl (ret24 _ hl3 (set24 _ hl3 hB ((bl_len _).trans hl3))) ⟨by rw [hsha], later_sets hLe (Nat.le_refl _) _ _⟩
        · go_wp2_with (fail)
          (try rw [l7])
          refine (add19 go _ _ [BitVec.ofNat 8 ((8 * t.length) >>> 56)] _ (hH.later (by repeat (first | (with_reducible exact Later.refl _) | with_reducible apply Later.latr | with_reducible apply Later.alloc | with_reducible apply Later.drew | (with_reducible refine Later.set ?_ (by (simp; try omega)) _)))) (Arr.new wr 5 (bl [BitVec.ofNat 8 ((8 * t.length) >>> 56)]) 1 1 rfl (by decide)) (.inr ⟨_, _, _, rfl⟩) (off_new (by simpa using hlt)) (by simp only [List.length_cons, List.length_nil]; omega)).mono ?_
          rintro e W2 ⟨rfl, hw2, hh2⟩
          go_wp2_with (fail)
          refine ⟨⟨1, by omega, rfl, (hWr.alloc _).step hw2, ?_⟩, by decide⟩
          rw [List.append_assoc] at hh2
          exact hh2
        · go_wp2_with (fail)
          (try rw [l6])
          refine (add19 go _ _ [BitVec.ofNat 8 ((8 * t.length) >>> 48)] _ (hH.later (by repeat (first | (with_reducible exact Later.refl _) | with_reducible apply Later.latr | with_reducible apply Later.alloc | with_reducible apply Later.drew | (with_reducible refine Later.set ?_ (by (simp; try omega)) _)))) (Arr.new wr 5 (bl [BitVec.ofNat 8 ((8 * t.length) >>> 48)]) 1 1 rfl (by decide)) (.inr ⟨_, _, _, rfl⟩) (off_new (by simpa using hlt)) (by simp only [List.length_cons, List.length_nil]; omega)).mono ?_
          rintro e W2 ⟨rfl, hw2, hh2⟩
          go_wp2_with (fail)
          refine ⟨⟨2, by omega, rfl, (hWr.alloc _).step hw2, ?_⟩, by decide⟩
          rw [List.append_assoc] at hh2
          exact hh2
        · go_wp2_with (fail)
          (try rw [l5])
          refine (add19 go _ _ [BitVec.ofNat 8 ((8 * t.length) >>> 40)] _ (hH.later (by repeat (first | (with_reducible exact Later.refl _) | with_reducible apply Later.latr | with_reducible apply Later.alloc | with_reducible apply Later.drew | (with_reducible refine Later.set ?_ (by (simp; try omega)) _)))) (Arr.new wr 5 (bl [BitVec.ofNat 8 ((8 * t.length) >>> 40)]) 1 1 rfl (by decide)) (.inr ⟨_, _, _, rfl⟩) (off_new (by simpa using hlt)) (by simp only [List.length_cons, List.length_nil]; omega)).mono ?_
          rintro e W2 ⟨rfl, hw2, hh2⟩
          go_wp2_with (fail)
          refine ⟨⟨3, by omega, rfl, (hWr.alloc _).step hw2, ?_⟩, by decide⟩
          rw [List.append_assoc] at hh2
          exact hh2
        · go_wp2_with (fail)
          (try rw [l4])
          refine (add19 go _ _ [BitVec.ofNat 8 ((8 * t.length) >>> 32)] _ (hH.later (by repeat (first | (with_reducible exact Later.refl _) | with_reducible apply Later.latr | with_reducible apply Later.alloc | with_reducible apply Later.drew | (with_reducible refine Later.set ?_ (by (simp; try omega)) _)))) (Arr.new wr 5 (bl [BitVec.ofNat 8 ((8 * t.length) >>> 32)]) 1 1 rfl (by decide)) (.inr ⟨_, _, _, rfl⟩) (off_new (by simpa using hlt)) (by simp only [List.length_cons, List.length_nil]; omega)).mono ?_
          rintro e W2 ⟨rfl, hw2, hh2⟩
          go_wp2_with (fail)
          refine ⟨⟨4, by omega, rfl, (hWr.alloc _).step hw2, ?_⟩, by decide⟩
          rw [List.append_assoc] at hh2
          exact hh2
        · go_wp2_with (fail)
          (try rw [l3])
          refine (add19 go _ _ [BitVec.ofNat 8 ((8 * t.length) >>> 24)] _ (hH.later (by repeat (first | (with_reducible exact Later.refl _) | with_reducible apply Later.latr | with_reducible apply Later.alloc | with_reducible apply Later.drew | (with_reducible refine Later.set ?_ (by (simp; try omega)) _)))) (Arr.new wr 5 (bl [BitVec.ofNat 8 ((8 * t.length) >>> 24)]) 1 1 rfl (by decide)) (.inr ⟨_, _, _, rfl⟩) (off_new (by simpa using hlt)) (by simp only [List.length_cons, List.length_nil]; omega)).mono ?_
          rintro e W2 ⟨rfl, hw2, hh2⟩
          go_wp2_with (fail)
          refine ⟨⟨5, by omega, rfl, (hWr.alloc _).step hw2, ?_⟩, by decide⟩
          rw [List.append_assoc] at hh2
          exact hh2
        · go_wp2_with (fail)
          (try rw [l2])
          refine (add19 go _ _ [BitVec.ofNat 8 ((8 * t.length) >>> 16)] _ (hH.later (by repeat (first | (with_reducible exact Later.refl _) | with_reducible apply Later.latr | with_reducible apply Later.alloc | with_reducible apply Later.drew | (with_reducible refine Later.set ?_ (by (simp; try omega)) _)))) (Arr.new wr 5 (bl [BitVec.ofNat 8 ((8 * t.length) >>> 16)]) 1 1 rfl (by decide)) (.inr ⟨_, _, _, rfl⟩) (off_new (by simpa using hlt)) (by simp only [List.length_cons, List.length_nil]; omega)).mono ?_
          rintro e W2 ⟨rfl, hw2, hh2⟩
          go_wp2_with (fail)
          refine ⟨⟨6, by omega, rfl, (hWr.alloc _).step hw2, ?_⟩, by decide⟩
          rw [List.append_assoc] at hh2
          exact hh2
        · go_wp2_with (fail)
          (try rw [l1])
          refine (add19 go _ _ [BitVec.ofNat 8 ((8 * t.length) >>> 8)] _ (hH.later (by repeat (first | (with_reducible exact Later.refl _) | with_reducible apply Later.latr | with_reducible apply Later.alloc | with_reducible apply Later.drew | (with_reducible refine Later.set ?_ (by (simp; try omega)) _)))) (Arr.new wr 5 (bl [BitVec.ofNat 8 ((8 * t.length) >>> 8)]) 1 1 rfl (by decide)) (.inr ⟨_, _, _, rfl⟩) (off_new (by simpa using hlt)) (by simp only [List.length_cons, List.length_nil]; omega)).mono ?_
          rintro e W2 ⟨rfl, hw2, hh2⟩
          go_wp2_with (fail)
          refine ⟨⟨7, by omega, rfl, (hWr.alloc _).step hw2, ?_⟩, by decide⟩
          rw [List.append_assoc] at hh2
          exact hh2
        · go_wp2_with (fail)
          (try rw [l0])
          refine (add19 go _ _ [BitVec.ofNat 8 ((8 * t.length) >>> 0)] _ (hH.later (by repeat (first | (with_reducible exact Later.refl _) | with_reducible apply Later.latr | with_reducible apply Later.alloc | with_reducible apply Later.drew | (with_reducible refine Later.set ?_ (by (simp; try omega)) _)))) (Arr.new wr 5 (bl [BitVec.ofNat 8 ((8 * t.length) >>> 0)]) 1 1 rfl (by decide)) (.inr ⟨_, _, _, rfl⟩) (off_new (by simpa using hlt)) (by simp only [List.length_cons, List.length_nil]; omega)).mono ?_
          rintro e W2 ⟨rfl, hw2, hh2⟩
          go_wp2_with (fail)
          refine ⟨⟨8, by omega, rfl, (hWr.alloc _).step hw2, ?_⟩, by decide⟩
          rw [List.append_assoc] at hh2
          exact hh2
end Go.Proofs.Ytnidpncacgknkaa
