/- The walk of EscapeNumbers: it answers true. Of arguments of their types. -/
import Derived.Test.YtjgaljnojhkimaaAwake
import Derived.Test.YtjgaljnojhkimaaNumLaw
import Derived.Deep.DrawnRows
namespace Go.Proofs.Ytjgaljnojhkimaa
open Go.RowKit
attribute [local go_sem] ite_max ite_min
attribute [local go_sem] h_lt1 h_lt2 h_lt3 h_lt4 h_lt5 h_lt6 h_eq1 h_qe1 h_eq2 h_qe2 h_eq3 h_qe3 h_eq4 h_qe4 h_eq5 h_qe5 h_eq6 h_qe6
theorem own_lit {W : World} {t : TypeId} {xs : List Value} {n size base g : Nat} (hg : g = W.heap.size) (hb : base ≤ W.heap.size) (hn : xs.length = n * size) (hm : n ≤ maxLen) :
    (W.alloc (.cells xs.toArray t)).ownsRow base t size (.slice (some ⟨g, 0, none⟩) n n) n xs := by
  subst hg
  exact ⟨hn, .inr ⟨_, n, xs.toArray, rfl, hb, heap_alloc_new W _, Nat.le_refl _, hm, by simpa using hn, by rw [← hn]; simp⟩⟩
theorem own_snoc {W : World} {base : Nat} {v : Value} {T : List Int} {x : Int} (h : W.ownsRow base 3 1 v (T.length + 1) (T.map iv ++ [iv x])) : W.ownsRow base 3 1 v (T ++ [x]).length ((T ++ [x]).map iv) := by
  rw [List.length_append, List.map_append]
  exact h
/-- what is wanted, of which k numbers stand -/
def wantK (mark : Bool) (l : List Int) (E : Int) (k : Nat) : Ac := { actK mark l k with kind := 4, rune := E, many := ((l.length - 1 : Nat) : Int) }
theorem want_at (mark : Bool) (l : List Int) (E : Int) (k : Nat) (hk : k < 8) : (ac (wantK mark l E k))[4 + k]? = some (.int .i64 0) := by
  match k, hk with
  | 0, _ | 1, _ | 2, _ | 3, _ | 4, _ | 5, _ | 6, _ | 7, _ => simp [wantK, actK, gK]
  | n + 8, h => exact absurd h (by omega)
theorem want_set (mark : Bool) (l : List Int) (E : Int) (k : Nat) (hk : k < 8) : (ac (wantK mark l E k)).setIfInBounds (4 + k) (iv (num l k)) = ac (wantK mark l E (k + 1)) := by
  match k, hk with
  | 0, _ | 1, _ | 2, _ | 3, _ | 4, _ | 5, _ | 6, _ | 7, _ => simp [wantK, actK, gK]
  | n + 8, h => exact absurd h (by omega)
def dv : Nat → Int
  | 0 => 1000
  | 1 => 100
  | 2 => 10
  | 3 => 1
  | _ => 0
/-- the digits, from the j-th place on less -/
def digs (n : Int) : Nat → List Int
  | 0 => []
  | j + 1 => digs n j ++ digAt n (dv j)
theorem digs_four (n : Int) : digs n 4 = dig n := rfl
theorem digs_len (n : Int) (j : Nat) : (digs n j).length ≤ j := by
  induction j with
  | zero => exact Nat.le_refl _
  | succ j ih =>
    simp only [digs, List.length_append, digAt]
    split <;> simp <;> omega
theorem body_len (l : List Int) (k : Nat) : (body l k).length ≤ 5 * k := by
  induction k with
  | zero => exact Nat.le_refl _
  | succ k ih =>
    have h1 := digs_len (num l k) 4
    rw [digs_four] at h1
    have h2 : (sep k).length ≤ 1 := by unfold sep; split <;> simp
    simp only [body, List.length_append]
    omega
theorem head_len (mark : Bool) : (headT mark).length ≤ 3 := by cases mark <;> decide

set_option maxRecDepth 100000 in
set_option maxHeartbeats 16000000 in
theorem numbers7 (v : Value) (l : List Int) (fin : Int) (mark : Bool) (hr : ∀ x ∈ l, 0 ≤ x ∧ x ≤ 65535) (h0 : 0 ≤ fin) (h1 : fin ≤ 255) (w : World) (hv : Arr w 1 v l.length (l.map (Value.int .u16))) :
    Calls Try.prog 7 #[v, .int .u8 fin, .bool mark] w fun e w' => e = .returned (.bool true) ∧ Later w w' := by
  obtain ⟨j0, hj0, hy0, hy1, hy2⟩ := info_parts info3
  obtain ⟨_, a, cap, rfl, hcap, hmax, hx⟩ := hv
  have HX := hid hx
  have HR := hid hr
  clear hx hr
  by_cases h8 : 8 < l.length
  · have hd : decide (8 < (l.length : Int)) = true := decide_eq_true (by omega)
    (go_enter Try.func7, Try.ntmps7; go_wp2_with (fail))
    (refine (awake8 _).mono ?_; rintro e w1 ⟨rfl, x1, rfl⟩; go_wp2_with (fail))
    go_ret
    exact ⟨rfl, by repeat (first | (with_reducible exact Later.refl _) | with_reducible apply Later.latr | with_reducible apply Later.alloc | with_reducible apply Later.drew | (with_reducible refine Later.set ?_ (by (simp; try omega)) _))⟩
  have hd : decide (8 < (l.length : Int)) = false := decide_eq_false (by omega)
  have hE : Int.tmod fin 63 = fin % 63 := Int.tmod_eq_emod_of_nonneg h0
  have hE0 : 64 ≤ 64 + fin % 63 ∧ 64 + fin % 63 ≤ 126 := by omega
  have hM : max ((l.length : Int) - 1) 0 = ((l.length - 1 : Nat) : Int) := by omega
  have hmk := head_len mark
  have hlaw := hid (acts_numbers mark l (by omega) (64 + fin % 63) hE0.1 hE0.2)
  generalize hEE : 64 + fin % 63 = E at *
  cases mark
  · (go_enter Try.func7, Try.ntmps7; go_wp2_with (fail))
    (refine (awake8 _).mono ?_; rintro e w1 ⟨rfl, x1, rfl⟩; go_wp2_with (fail))
    have HO : Hid (((latr w x1).alloc (.cells #[.int .i64 27, .int .i64 91] 3)).ownsRow w.heap.size 3 1 (.slice (some ⟨w.heap.size + x1.more, 0, none⟩) 2 2) 2 ((headT false).map iv)) := hid (own_lit (xs := [iv 27, iv 91]) (by simp [size_latr]) (by simp [size_latr]) rfl (by decide))
    obtain ⟨U, hU⟩ : ∃ U, U = ((latr w x1).alloc (.cells #[.int .i64 27, .int .i64 91] 3)).alloc (.cells #[.int .i64 4, .int .i64 E, .bool false, .int .i64 ((l.length - 1 : Nat) : Int), .int .i64 0, .int .i64 0, .int .i64 0, .int .i64 0, .int .i64 0, .int .i64 0, .int .i64 0, .int .i64 0] 25) := ⟨_, rfl⟩
    have HB : Hid (Blk U (w.heap.size + x1.more + 1) 25 (ac (wantK false l E 0))) := hid (by rw [hU]; exact (blk_new (by simp [size_latr])).cast (by simp [wantK, actK, gK]))
    replace HO := hid (show U.ownsRow w.heap.size 3 1 _ (headT false ++ body l 0).length ((headT false ++ body l 0).map iv) by rw [hU]; exact HO.out.alloc _)
    have HL : Hid (Later w U) := hid (by rw [hU]; exact by repeat (first | (with_reducible exact Later.refl _) | with_reducible apply Later.latr | with_reducible apply Later.alloc | with_reducible apply Later.drew | (with_reducible refine Later.set ?_ (by (simp; try omega)) _)))
    rw [← hU]
    clear hU
    have hb10 : w.heap.size ≤ w.heap.size + x1.more + 1 := by omega
    generalize w.heap.size + x1.more + 1 = b10 at *
    generalize (Value.slice (some ⟨w.heap.size + x1.more, 0, none⟩) 2 2) = txt at *
    go_loopw [9, 11] (fun txt i wr => ∃ k : Nat, k ≤ l.length ∧ i = .int .i64 k ∧ Later w wr ∧ wr.ownsRow w.heap.size 3 1 txt (headT false ++ body l k).length ((headT false ++ body l k).map iv) ∧ Blk wr b10 25 (ac (wantK false l E k))) (fun _ i _ => l.length - (intOf i).toNat)
    case atStart => exact ⟨0, Nat.zero_le _, rfl, HL.out, HO.out, HB.out⟩
    case round =>
      obtain ⟨k, hk, rfl, hl, hO, hBk⟩ := hrel
      have hTl : (headT false ++ body l k).length ≤ 3 + 5 * k := by rw [List.length_append]; have := body_len l k; omega
      by_cases hlt : k < l.length
      · obtain ⟨b, off, rfl, hb, hcell⟩ := HX.out (by omega)
        have hget : num l k = l[k] % 10000 := by unfold num; simp [hlt]
        have hrk := HR.out l[k] (List.getElem_mem hlt)
        have hnm : Int.tmod l[k] 10000 = num l k := by rw [hget]; exact Int.tmod_eq_emod_of_nonneg hrk.1
        have hnr := num_range l k
        have hwk := hid (want_at false l E k (by omega))
        have hws := hid (want_set false l E k (by omega))
        have hbk : body l (k + 1) = body l k ++ sep k ++ dig (num l k) := rfl
        have hc := hcell k _ (by simp [hlt] : (l.map (Value.int .u16))[k]? = some (.int .u16 l[k]))
        have HLo := hid hl
        have HOo := hid hO
        have HBo := hid hBk
        have hleo := hid hl.size
        clear hl hO hBk hcell hget
        generalize l[k] = x at *
        generalize num l k = n at *
        obtain ⟨hn0, hn1⟩ := hnr
        have hb10k : b10 < wr.heap.size := HBo.out.lt
        obtain ⟨wq, rfl⟩ : ∃ wq : World, wq = wr := ⟨_, rfl⟩
        by_cases hk0 : k = 0
        · subst hk0
          rw [show ((0 : Nat) : Int) = 0 from rfl]
          have hsep : sep 0 = [] := rfl
          rw [hsep, List.append_nil] at hbk
          have HT := hid (show headT false ++ body l (0 + 1) = (headT false ++ body l 0) ++ dig n by rw [hbk, List.append_assoc])
          have hT4 : (headT false ++ body l 0).length ≤ 50 := by omega
          generalize headT false ++ body l 0 = T at *
          have c0 : wq.cell? ⟨b, off, none⟩ = some (.int .u16 x) := (HLo.out.cell hb).trans hc
          have co : wq.cell? ⟨b10, 4, none⟩ = some (.int .i64 0) := by rw [HBo.out.cell]; exact hwk.out
          have fo := HBo.out.frozen 4
          go_wp2_with (fail)
          obtain ⟨V, hV⟩ : ∃ V, V = wq.setCell ⟨b10, 4, none⟩ (.int .i64 n) := ⟨_, rfl⟩
          have HBV : Hid (Blk V b10 25 (ac (wantK false l E (0 + 1)))) := hid (by rw [hV]; exact (HBo.out.set_ (4) _).cast hws.out)
          have HOV : Hid (V.ownsRow w.heap.size 3 1 _ T.length (T.map iv)) := hid (by rw [hV]; exact own_set HOo.out (own_blk_ne HOo.out HBo.out (by decide)) _)
          have HLV : Hid (Later w V) := hid (by rw [hV]; exact HLo.out.set hb10 _)
          rw [← hV]
          clear hV co fo c0
          go_loopw [9, 13] (fun txt d wr => ∃ j : Nat, j ≤ 4 ∧ d = .int .i64 (dv j) ∧ Later w wr ∧ wr.ownsRow w.heap.size 3 1 txt (T ++ digs n j).length ((T ++ digs n j).map iv) ∧ Blk wr b10 25 (ac (wantK false l E (0 + 1)))) (fun _ d _ => (intOf d).toNat)
          case atStart => exact ⟨0, by omega, rfl, HLV.out, by simpa [digs] using HOV.out, HBV.out⟩
          case round =>
            obtain ⟨j, hj, rfl, hl4, hO4, hB4⟩ := hrel
            have HL4 := hid hl4
            have HO4 := hid hO4
            have HB4 := hid hB4
            have hle4 := hid hl4.size
            have hdl := digs_len n j
            have hTd : (T ++ digs n j).length ≤ 100 := by rw [List.length_append]; omega
            clear hl4 hO4 hB4
            rcases (show j = 0 ∨ j = 1 ∨ j = 2 ∨ j = 3 ∨ j = 4 by omega) with rfl | rfl | rfl | rfl | rfl
            · simp only [dv]
              have hdv : digs n 1 = digs n 0 ++ digAt n 1000 := rfl
              have q1 : Int.tdiv n 1000 = n / (1000 : Int) := Int.tdiv_eq_ediv_of_nonneg hn0
              have q2 : Int.tmod (n / (1000 : Int)) 10 = n / (1000 : Int) % 10 := Int.tmod_eq_emod_of_nonneg (by omega)
              by_cases hdn : (1000 : Int) ≤ n
              · have d1 : decide ((1000 : Int) ≤ n) = true := decide_eq_true hdn
                have hda : digAt n 1000 = [48 + n / 1000 % 10] := by unfold digAt; rw [if_pos hdn]
                go_wp2_with (first
                  | (at_builtin
                     (refine append_new rfl (.tmp 65) (.tmp 71) 32 rfl w.heap.size 3 j0 _ 1 8 Try.underlying32 hj0 hy0 hy1 hy2 rfl (by decide) _ 3 _ _ _ rfl HO4.out _ 1 [_] rfl rfl rfl (by simp [Value.oneCell']) (by unfold maxLen; omega) (by omega) hle4.out ?_)
                     intro v5 W5 hO5 hg5))
                go_roundw
                case rel =>
                  refine ⟨1, by omega, rfl, Later.grown HL4.out hg5 (own_lt HO4.out (Nat.le_refl _)), ?_, HB4.out.grown hg5 (own_blk_ne HO4.out HB4.out (by decide))⟩
                  rw [hdv, hda, ← List.append_assoc]
                  exact own_snoc hO5
                case measure => first | decide | (simp [intOf]; done) | (simp [intOf]; omega)
              · have d1 : decide ((1000 : Int) ≤ n) = false := decide_eq_false hdn
                have hda : digAt n 1000 = [] := by unfold digAt; rw [if_neg hdn]
                go_wp2_with (fail)
                go_roundw
                case rel => exact ⟨1, by omega, rfl, HL4.out, by rw [hdv, hda, List.append_nil]; exact HO4.out, HB4.out⟩
                case measure => first | decide | (simp [intOf]; done) | (simp [intOf]; omega)
            · simp only [dv]
              have hdv : digs n 2 = digs n 1 ++ digAt n 100 := rfl
              have q1 : Int.tdiv n 100 = n / (100 : Int) := Int.tdiv_eq_ediv_of_nonneg hn0
              have q2 : Int.tmod (n / (100 : Int)) 10 = n / (100 : Int) % 10 := Int.tmod_eq_emod_of_nonneg (by omega)
              by_cases hdn : (100 : Int) ≤ n
              · have d1 : decide ((100 : Int) ≤ n) = true := decide_eq_true hdn
                have hda : digAt n 100 = [48 + n / 100 % 10] := by unfold digAt; rw [if_pos hdn]
                go_wp2_with (first
                  | (at_builtin
                     (refine append_new rfl (.tmp 65) (.tmp 71) 32 rfl w.heap.size 3 j0 _ 1 8 Try.underlying32 hj0 hy0 hy1 hy2 rfl (by decide) _ 3 _ _ _ rfl HO4.out _ 1 [_] rfl rfl rfl (by simp [Value.oneCell']) (by unfold maxLen; omega) (by omega) hle4.out ?_)
                     intro v5 W5 hO5 hg5))
                go_roundw
                case rel =>
                  refine ⟨2, by omega, rfl, Later.grown HL4.out hg5 (own_lt HO4.out (Nat.le_refl _)), ?_, HB4.out.grown hg5 (own_blk_ne HO4.out HB4.out (by decide))⟩
                  rw [hdv, hda, ← List.append_assoc]
                  exact own_snoc hO5
                case measure => first | decide | (simp [intOf]; done) | (simp [intOf]; omega)
              · have d1 : decide ((100 : Int) ≤ n) = false := decide_eq_false hdn
                have hda : digAt n 100 = [] := by unfold digAt; rw [if_neg hdn]
                go_wp2_with (fail)
                go_roundw
                case rel => exact ⟨2, by omega, rfl, HL4.out, by rw [hdv, hda, List.append_nil]; exact HO4.out, HB4.out⟩
                case measure => first | decide | (simp [intOf]; done) | (simp [intOf]; omega)
            · simp only [dv]
              have hdv : digs n 3 = digs n 2 ++ digAt n 10 := rfl
              have q1 : Int.tdiv n 10 = n / (10 : Int) := Int.tdiv_eq_ediv_of_nonneg hn0
              have q2 : Int.tmod (n / (10 : Int)) 10 = n / (10 : Int) % 10 := Int.tmod_eq_emod_of_nonneg (by omega)
              by_cases hdn : (10 : Int) ≤ n
              · have d1 : decide ((10 : Int) ≤ n) = true := decide_eq_true hdn
                have hda : digAt n 10 = [48 + n / 10 % 10] := by unfold digAt; rw [if_pos hdn]
                go_wp2_with (first
                  | (at_builtin
                     (refine append_new rfl (.tmp 65) (.tmp 71) 32 rfl w.heap.size 3 j0 _ 1 8 Try.underlying32 hj0 hy0 hy1 hy2 rfl (by decide) _ 3 _ _ _ rfl HO4.out _ 1 [_] rfl rfl rfl (by simp [Value.oneCell']) (by unfold maxLen; omega) (by omega) hle4.out ?_)
                     intro v5 W5 hO5 hg5))
                go_roundw
                case rel =>
                  refine ⟨3, by omega, rfl, Later.grown HL4.out hg5 (own_lt HO4.out (Nat.le_refl _)), ?_, HB4.out.grown hg5 (own_blk_ne HO4.out HB4.out (by decide))⟩
                  rw [hdv, hda, ← List.append_assoc]
                  exact own_snoc hO5
                case measure => first | decide | (simp [intOf]; done) | (simp [intOf]; omega)
              · have d1 : decide ((10 : Int) ≤ n) = false := decide_eq_false hdn
                have hda : digAt n 10 = [] := by unfold digAt; rw [if_neg hdn]
                go_wp2_with (fail)
                go_roundw
                case rel => exact ⟨3, by omega, rfl, HL4.out, by rw [hdv, hda, List.append_nil]; exact HO4.out, HB4.out⟩
                case measure => first | decide | (simp [intOf]; done) | (simp [intOf]; omega)
            · simp only [dv]
              have hdv : digs n 4 = digs n 3 ++ digAt n 1 := rfl
              have q1 : Int.tdiv n 1 = n / (1 : Int) := Int.tdiv_eq_ediv_of_nonneg hn0
              have q2 : Int.tmod (n / (1 : Int)) 10 = n / (1 : Int) % 10 := Int.tmod_eq_emod_of_nonneg (by omega)
              by_cases hdn : (1 : Int) ≤ n
              · have d1 : decide ((1 : Int) ≤ n) = true := decide_eq_true hdn
                have hda : digAt n 1 = [48 + n % 10] := by unfold digAt; rw [if_pos hdn, Int.ediv_one]
                go_wp2_with (first
                  | (at_builtin
                     (refine append_new rfl (.tmp 65) (.tmp 71) 32 rfl w.heap.size 3 j0 _ 1 8 Try.underlying32 hj0 hy0 hy1 hy2 rfl (by decide) _ 3 _ _ _ rfl HO4.out _ 1 [_] rfl rfl rfl (by simp [Value.oneCell']) (by unfold maxLen; omega) (by omega) hle4.out ?_)
                     intro v5 W5 hO5 hg5))
                go_roundw
                case rel =>
                  refine ⟨4, by omega, rfl, Later.grown HL4.out hg5 (own_lt HO4.out (Nat.le_refl _)), ?_, HB4.out.grown hg5 (own_blk_ne HO4.out HB4.out (by decide))⟩
                  rw [hdv, hda, ← List.append_assoc]
                  exact own_snoc hO5
                case measure => first | decide | (simp [intOf]; done) | (simp [intOf]; omega)
              · have d1 : decide ((1 : Int) ≤ n) = false := decide_eq_false hdn
                have hda : digAt n 1 = [] := by unfold digAt; rw [if_neg hdn]
                go_wp2_with (fail)
                go_roundw
                case rel => exact ⟨4, by omega, rfl, HL4.out, by rw [hdv, hda, List.append_nil]; exact HO4.out, HB4.out⟩
                case measure => first | decide | (simp [intOf]; done) | (simp [intOf]; omega)
            · simp only [dv]
              rw [digs_four, ← HT.out] at HO4
              go_wp2_with (fail)
              go_roundw
              case rel => exact ⟨0 + 1, by omega, by go_num, HL4.out, HO4.out, HB4.out⟩
              case measure => simp [intOf]; omega
        · have hk1 : decide (0 < (k : Int)) = true := decide_eq_true (by omega)
          have hsep : sep k = [59] := by unfold sep; rw [if_pos (by omega)]
          rw [hsep] at hbk
          have HT := hid (show headT false ++ body l (k + 1) = (headT false ++ body l k ++ [59]) ++ dig n by rw [hbk]; simp only [List.append_assoc])
          go_wp2_with (first
            | (at_builtin
               (refine append_new rfl (.tmp 45) (.tmp 46) 32 rfl w.heap.size 3 j0 _ 1 8 Try.underlying32 hj0 hy0 hy1 hy2 rfl (by decide) _ 3 _ _ _ rfl HOo.out _ 1 [_] rfl rfl rfl (by simp [Value.oneCell']) (by unfold maxLen; omega) (by omega) hleo.out ?_)
               intro v3 W3 hO3 hg3
               have HL3 := hid (Later.grown HLo.out hg3 (own_lt HOo.out (Nat.le_refl _)))
               have HB3 := hid (HBo.out.grown hg3 (own_blk_ne HOo.out HBo.out (by decide)))
               have HO3 := hid (own_snoc (x := 59) hO3)
               have c0 : W3.cell? ⟨b, off + k, none⟩ = some (.int .u16 x) := (HL3.out.cell hb).trans hc
               have co : W3.cell? ⟨b10, 4 + k, none⟩ = some (.int .i64 0) := by rw [HB3.out.cell]; exact hwk.out
               have fo := HB3.out.frozen (4 + k)
               clear hO3 hg3))
          obtain ⟨V, hV⟩ : ∃ V, V = W3.setCell ⟨b10, 4 + k, none⟩ (.int .i64 n) := ⟨_, rfl⟩
          have HBV : Hid (Blk V b10 25 (ac (wantK false l E (k + 1)))) := hid (by rw [hV]; exact (HB3.out.set_ (4 + k) _).cast hws.out)
          have HOV : Hid (V.ownsRow w.heap.size 3 1 _ (headT false ++ body l k ++ [59]).length ((headT false ++ body l k ++ [59]).map iv)) := hid (by rw [hV]; exact own_set HO3.out (own_blk_ne HO3.out HB3.out (by decide)) _)
          have HLV : Hid (Later w V) := hid (by rw [hV]; exact HL3.out.set hb10 _)
          rw [← hV]
          clear hV co fo c0
          go_loopw [9, 13] (fun txt d wr => ∃ j : Nat, j ≤ 4 ∧ d = .int .i64 (dv j) ∧ Later w wr ∧ wr.ownsRow w.heap.size 3 1 txt ((headT false ++ body l k ++ [59]) ++ digs n j).length (((headT false ++ body l k ++ [59]) ++ digs n j).map iv) ∧ Blk wr b10 25 (ac (wantK false l E (k + 1)))) (fun _ d _ => (intOf d).toNat)
          case atStart => exact ⟨0, by omega, rfl, HLV.out, by simpa [digs] using HOV.out, HBV.out⟩
          case round =>
            obtain ⟨j, hj, rfl, hl4, hO4, hB4⟩ := hrel
            have HL4 := hid hl4
            have HO4 := hid hO4
            have HB4 := hid hB4
            have hle4 := hid hl4.size
            have hdl := digs_len n j
            have hTd : ((headT false ++ body l k ++ [59]) ++ digs n j).length ≤ 100 := by rw [List.length_append]; simp only [List.length_append, List.length_cons, List.length_nil] at hTl ⊢; omega
            clear hl4 hO4 hB4
            rcases (show j = 0 ∨ j = 1 ∨ j = 2 ∨ j = 3 ∨ j = 4 by omega) with rfl | rfl | rfl | rfl | rfl
            · simp only [dv]
              have hdv : digs n 1 = digs n 0 ++ digAt n 1000 := rfl
              have q1 : Int.tdiv n 1000 = n / (1000 : Int) := Int.tdiv_eq_ediv_of_nonneg hn0
              have q2 : Int.tmod (n / (1000 : Int)) 10 = n / (1000 : Int) % 10 := Int.tmod_eq_emod_of_nonneg (by omega)
              by_cases hdn : (1000 : Int) ≤ n
              · have d1 : decide ((1000 : Int) ≤ n) = true := decide_eq_true hdn
                have hda : digAt n 1000 = [48 + n / 1000 % 10] := by unfold digAt; rw [if_pos hdn]
                go_wp2_with (first
                  | (at_builtin
                     (refine append_new rfl (.tmp 65) (.tmp 71) 32 rfl w.heap.size 3 j0 _ 1 8 Try.underlying32 hj0 hy0 hy1 hy2 rfl (by decide) _ 3 _ _ _ rfl HO4.out _ 1 [_] rfl rfl rfl (by simp [Value.oneCell']) (by unfold maxLen; omega) (by omega) hle4.out ?_)
                     intro v5 W5 hO5 hg5))
                go_roundw
                case rel =>
                  refine ⟨1, by omega, rfl, Later.grown HL4.out hg5 (own_lt HO4.out (Nat.le_refl _)), ?_, HB4.out.grown hg5 (own_blk_ne HO4.out HB4.out (by decide))⟩
                  rw [hdv, hda, ← List.append_assoc]
                  exact own_snoc hO5
                case measure => first | decide | (simp [intOf]; done) | (simp [intOf]; omega)
              · have d1 : decide ((1000 : Int) ≤ n) = false := decide_eq_false hdn
                have hda : digAt n 1000 = [] := by unfold digAt; rw [if_neg hdn]
                go_wp2_with (fail)
                go_roundw
                case rel => exact ⟨1, by omega, rfl, HL4.out, by rw [hdv, hda, List.append_nil]; exact HO4.out, HB4.out⟩
                case measure => first | decide | (simp [intOf]; done) | (simp [intOf]; omega)
            · simp only [dv]
              have hdv : digs n 2 = digs n 1 ++ digAt n 100 := rfl
              have q1 : Int.tdiv n 100 = n / (100 : Int) := Int.tdiv_eq_ediv_of_nonneg hn0
              have q2 : Int.tmod (n / (100 : Int)) 10 = n / (100 : Int) % 10 := Int.tmod_eq_emod_of_nonneg (by omega)
              by_cases hdn : (100 : Int) ≤ n
              · have d1 : decide ((100 : Int) ≤ n) = true := decide_eq_true hdn
                have hda : digAt n 100 = [48 + n / 100 % 10] := by unfold digAt; rw [if_pos hdn]
                go_wp2_with (first
                  | (at_builtin
                     (refine append_new rfl (.tmp 65) (.tmp 71) 32 rfl w.heap.size 3 j0 _ 1 8 Try.underlying32 hj0 hy0 hy1 hy2 rfl (by decide) _ 3 _ _ _ rfl HO4.out _ 1 [_] rfl rfl rfl (by simp [Value.oneCell']) (by unfold maxLen; omega) (by omega) hle4.out ?_)
                     intro v5 W5 hO5 hg5))
                go_roundw
                case rel =>
                  refine ⟨2, by omega, rfl, Later.grown HL4.out hg5 (own_lt HO4.out (Nat.le_refl _)), ?_, HB4.out.grown hg5 (own_blk_ne HO4.out HB4.out (by decide))⟩
                  rw [hdv, hda, ← List.append_assoc]
                  exact own_snoc hO5
                case measure => first | decide | (simp [intOf]; done) | (simp [intOf]; omega)
              · have d1 : decide ((100 : Int) ≤ n) = false := decide_eq_false hdn
                have hda : digAt n 100 = [] := by unfold digAt; rw [if_neg hdn]
                go_wp2_with (fail)
                go_roundw
                case rel => exact ⟨2, by omega, rfl, HL4.out, by rw [hdv, hda, List.append_nil]; exact HO4.out, HB4.out⟩
                case measure => first | decide | (simp [intOf]; done) | (simp [intOf]; omega)
            · simp only [dv]
              have hdv : digs n 3 = digs n 2 ++ digAt n 10 := rfl
              have q1 : Int.tdiv n 10 = n / (10 : Int) := Int.tdiv_eq_ediv_of_nonneg hn0
              have q2 : Int.tmod (n / (10 : Int)) 10 = n / (10 : Int) % 10 := Int.tmod_eq_emod_of_nonneg (by omega)
              by_cases hdn : (10 : Int) ≤ n
              · have d1 : decide ((10 : Int) ≤ n) = true := decide_eq_true hdn
                have hda : digAt n 10 = [48 + n / 10 % 10] := by unfold digAt; rw [if_pos hdn]
                go_wp2_with (first
                  | (at_builtin
                     (refine append_new rfl (.tmp 65) (.tmp 71) 32 rfl w.heap.size 3 j0 _ 1 8 Try.underlying32 hj0 hy0 hy1 hy2 rfl (by decide) _ 3 _ _ _ rfl HO4.out _ 1 [_] rfl rfl rfl (by simp [Value.oneCell']) (by unfold maxLen; omega) (by omega) hle4.out ?_)
                     intro v5 W5 hO5 hg5))
                go_roundw
                case rel =>
                  refine ⟨3, by omega, rfl, Later.grown HL4.out hg5 (own_lt HO4.out (Nat.le_refl _)), ?_, HB4.out.grown hg5 (own_blk_ne HO4.out HB4.out (by decide))⟩
                  rw [hdv, hda, ← List.append_assoc]
                  exact own_snoc hO5
                case measure => first | decide | (simp [intOf]; done) | (simp [intOf]; omega)
              · have d1 : decide ((10 : Int) ≤ n) = false := decide_eq_false hdn
                have hda : digAt n 10 = [] := by unfold digAt; rw [if_neg hdn]
                go_wp2_with (fail)
                go_roundw
                case rel => exact ⟨3, by omega, rfl, HL4.out, by rw [hdv, hda, List.append_nil]; exact HO4.out, HB4.out⟩
                case measure => first | decide | (simp [intOf]; done) | (simp [intOf]; omega)
            · simp only [dv]
              have hdv : digs n 4 = digs n 3 ++ digAt n 1 := rfl
              have q1 : Int.tdiv n 1 = n / (1 : Int) := Int.tdiv_eq_ediv_of_nonneg hn0
              have q2 : Int.tmod (n / (1 : Int)) 10 = n / (1 : Int) % 10 := Int.tmod_eq_emod_of_nonneg (by omega)
              by_cases hdn : (1 : Int) ≤ n
              · have d1 : decide ((1 : Int) ≤ n) = true := decide_eq_true hdn
                have hda : digAt n 1 = [48 + n % 10] := by unfold digAt; rw [if_pos hdn, Int.ediv_one]
                go_wp2_with (first
                  | (at_builtin
                     (refine append_new rfl (.tmp 65) (.tmp 71) 32 rfl w.heap.size 3 j0 _ 1 8 Try.underlying32 hj0 hy0 hy1 hy2 rfl (by decide) _ 3 _ _ _ rfl HO4.out _ 1 [_] rfl rfl rfl (by simp [Value.oneCell']) (by unfold maxLen; omega) (by omega) hle4.out ?_)
                     intro v5 W5 hO5 hg5))
                go_roundw
                case rel =>
                  refine ⟨4, by omega, rfl, Later.grown HL4.out hg5 (own_lt HO4.out (Nat.le_refl _)), ?_, HB4.out.grown hg5 (own_blk_ne HO4.out HB4.out (by decide))⟩
                  rw [hdv, hda, ← List.append_assoc]
                  exact own_snoc hO5
                case measure => first | decide | (simp [intOf]; done) | (simp [intOf]; omega)
              · have d1 : decide ((1 : Int) ≤ n) = false := decide_eq_false hdn
                have hda : digAt n 1 = [] := by unfold digAt; rw [if_neg hdn]
                go_wp2_with (fail)
                go_roundw
                case rel => exact ⟨4, by omega, rfl, HL4.out, by rw [hdv, hda, List.append_nil]; exact HO4.out, HB4.out⟩
                case measure => first | decide | (simp [intOf]; done) | (simp [intOf]; omega)
            · simp only [dv]
              rw [digs_four, ← HT.out] at HO4
              go_wp2_with (fail)
              go_roundw
              case rel => exact ⟨k + 1, by omega, by go_num, HL4.out, HO4.out, HB4.out⟩
              case measure => simp [intOf]; omega
      · obtain rfl : k = l.length := by omega
        have HLe := hid hl
        have HOe := hid hO
        have HBe := hid hBk
        have hlee := hid hl.size
        clear hl hO hBk
        have hlw := hlaw.out
        generalize hTT : headT false ++ body l l.length = T at *
        go_wp2_with (first
          | (at_builtin
             (refine append_new rfl (.tmp 75) (.tmp 77) 32 rfl w.heap.size 3 j0 _ 1 8 Try.underlying32 hj0 hy0 hy1 hy2 rfl (by decide) _ 3 _ _ _ rfl HOe.out _ 1 [_] rfl rfl rfl (by simp [Value.oneCell']) (by unfold maxLen; omega) (by omega) hlee.out ?_)
             intro v3 W3 hO3 hg3))
        have hWK : ({ actK false l l.length with kind := 4, rune := E } : Ac) = wantK false l E l.length := rfl
        rw [hWK] at hlw
        have HB3 := hid (HBe.out.grown hg3 (own_blk_ne HOe.out HBe.out (by decide)))
        have HL3 := hid (Later.grown HLe.out hg3 (own_lt HOe.out (Nat.le_refl _)))
        generalize wantK false l E l.length = R at *
        refine (acts13 step9 .zero v3 (T ++ [E]) W3 (by simp; omega) (Arr.of_own (own_snoc hO3))).mono ?_
        rw [hlw]
        rintro e W4 ⟨v4, rfl, hl4, hO4⟩
        obtain ⟨qa, qc, hq⟩ := own_is_slice hO4
        subst hq
        obtain ⟨g4, rfl, _, hg4, _, _, hc4⟩ := own_slice hO4 (by show 0 < 1; decide)
        have HB4 := hid (HB3.out.later hl4)
        have HL4 := hid (HL3.out.trans hl4)
        clear hl4 hO4 HB3 HL3 hO3 hg3 HBe HLe HOe hlee
        (try simp only [])
        (iterate 18 go_step)
        obtain ⟨X, hX⟩ : ∃ X, X = W4.alloc (.cells (pc .zero) 27) := ⟨_, rfl⟩
        have hlX : Later W4 X := by rw [hX]; exact by repeat (first | (with_reducible exact Later.refl _) | with_reducible apply Later.latr | with_reducible apply Later.alloc | with_reducible apply Later.drew | (with_reducible refine Later.set ?_ (by (simp; try omega)) _))
        have HBX : Hid (Blk X W4.heap.size 27 (pc .zero)) := hid (by rw [hX]; exact Blk.new W4 27 _)
        rw [← hX]
        have hg4x : g4 < X.heap.size := Nat.lt_of_lt_of_le hg4 hlX.size
        replace HB4 := hid (HB4.out.later hlX)
        replace HL4 := hid (HL4.out.trans hlX)
        have gc0 : X.cell? ⟨g4, 0, none⟩ = some (.int .i64 R.kind) := (hlX.cell hg4).trans (hc4 0 _ rfl)
        have gc1 : X.cell? ⟨g4, 1, none⟩ = some (.int .i64 R.rune) := (hlX.cell hg4).trans (hc4 1 _ rfl)
        have gc2 : X.cell? ⟨g4, 2, none⟩ = some (.bool R.mark) := (hlX.cell hg4).trans (hc4 2 _ rfl)
        have gc3 : X.cell? ⟨g4, 3, none⟩ = some (.int .i64 R.many) := (hlX.cell hg4).trans (hc4 3 _ rfl)
        have gc4 : X.cell? ⟨g4, 4, none⟩ = some (.int .i64 R.p0) := (hlX.cell hg4).trans (hc4 4 _ rfl)
        have gc5 : X.cell? ⟨g4, 5, none⟩ = some (.int .i64 R.p1) := (hlX.cell hg4).trans (hc4 5 _ rfl)
        have gc6 : X.cell? ⟨g4, 6, none⟩ = some (.int .i64 R.p2) := (hlX.cell hg4).trans (hc4 6 _ rfl)
        have gc7 : X.cell? ⟨g4, 7, none⟩ = some (.int .i64 R.p3) := (hlX.cell hg4).trans (hc4 7 _ rfl)
        have gc8 : X.cell? ⟨g4, 8, none⟩ = some (.int .i64 R.p4) := (hlX.cell hg4).trans (hc4 8 _ rfl)
        have gc9 : X.cell? ⟨g4, 9, none⟩ = some (.int .i64 R.p5) := (hlX.cell hg4).trans (hc4 9 _ rfl)
        have gc10 : X.cell? ⟨g4, 10, none⟩ = some (.int .i64 R.p6) := (hlX.cell hg4).trans (hc4 10 _ rfl)
        have gc11 : X.cell? ⟨g4, 11, none⟩ = some (.int .i64 R.p7) := (hlX.cell hg4).trans (hc4 11 _ rfl)
        clear hX hlX hc4
        generalize W4.heap.size = b15 at *
        (obtain ⟨hcc0, hcc1, hcc2, hcc3, hcc4, hcc5, hcc6, hcc7, hcc8, hcc9, hcc10, hcc11, hfc0, hfc1, hfc2, hfc3, hfc4, hfc5, hfc6, hfc7, hfc8, hfc9, hfc10, hfc11, hgc⟩ := Blk.at12 (HB4.out))
        (obtain ⟨hcz0, hcz1, hcz2, hcz3, hcz4, hcz5, hcz6, hcz7, hcz8, hcz9, hcz10, hcz11, hcz12, hfz0, hfz1, hfz2, hfz3, hfz4, hfz5, hfz6, hfz7, hfz8, hfz9, hfz10, hfz11, hfz12, hgz⟩ := Blk.at13 (HBX.out))
        clear HB4 HBX
        go_wp2_with (fail)
        (refine wp_region_calm (by kernel_rfl) (by kernel_rfl) ?_; (repeat (go_big_quiet_step ((fail)))); refine wpQuiet_nil ?_; rintro _ ⟨x, rfl⟩; go_wp2_with (fail))
        go_ret
        exact ⟨rfl, by repeat (first | (with_reducible exact Later.refl _) | (with_reducible exact HL4.out) | with_reducible apply Later.latr | with_reducible apply Later.alloc | with_reducible apply Later.drew | (with_reducible refine Later.set ?_ (by (simp; try omega)) _))⟩
  · (go_enter Try.func7, Try.ntmps7; go_wp2_with (fail))
    (refine (awake8 _).mono ?_; rintro e w1 ⟨rfl, x1, rfl⟩)
    have HO0 : Hid (((latr w x1).alloc (.cells #[.int .i64 27, .int .i64 91] 3)).ownsRow w.heap.size 3 1 (.slice (some ⟨w.heap.size + x1.more, 0, none⟩) 2 2) 2 [iv 27, iv 91]) := hid (own_lit (xs := [iv 27, iv 91]) (by simp [size_latr]) (by simp [size_latr]) rfl (by decide))
    have hl0 : Hid (Later w ((latr w x1).alloc (.cells #[.int .i64 27, .int .i64 91] 3))) := hid (by repeat (first | (with_reducible exact Later.refl _) | with_reducible apply Later.latr | with_reducible apply Later.alloc | with_reducible apply Later.drew | (with_reducible refine Later.set ?_ (by (simp; try omega)) _)))
    have hle0 := hid hl0.out.size
    go_wp2_with (first
      | (at_builtin
         (refine append_new rfl (.tmp 27) (.tmp 28) 32 rfl w.heap.size 3 j0 _ 1 8 Try.underlying32 hj0 hy0 hy1 hy2 rfl (by decide) _ 3 _ 2 _ rfl HO0.out _ 1 [_] rfl (by simp [size_latr]) rfl (by simp [Value.oneCell']) (by unfold maxLen; omega) (by omega) hle0.out ?_)
         intro v3 W3 hO3 hg3))
    have hl3 := Later.grown hl0.out hg3 (own_lt HO0.out (Nat.le_refl _))
    obtain ⟨U, hU⟩ : ∃ U, U = W3.alloc (.cells #[.int .i64 4, .int .i64 E, .bool true, .int .i64 ((l.length - 1 : Nat) : Int), .int .i64 0, .int .i64 0, .int .i64 0, .int .i64 0, .int .i64 0, .int .i64 0, .int .i64 0, .int .i64 0] 25) := ⟨_, rfl⟩
    have HB : Hid (Blk U W3.heap.size 25 (ac (wantK true l E 0))) := hid (by rw [hU]; exact (blk_new rfl).cast (by simp [wantK, actK, gK]))
    have HO := hid (show U.ownsRow w.heap.size 3 1 _ (headT true ++ body l 0).length ((headT true ++ body l 0).map iv) by rw [hU]; exact hO3.alloc _)
    have HL : Hid (Later w U) := hid (by rw [hU]; exact hl3.alloc _)
    rw [← hU]
    have hb10 : w.heap.size ≤ W3.heap.size := hl3.size
    clear hU hl3 hO3 hg3 HO0 hl0 hle0
    generalize W3.heap.size = b10 at *
    go_loopw [9, 11] (fun txt i wr => ∃ k : Nat, k ≤ l.length ∧ i = .int .i64 k ∧ Later w wr ∧ wr.ownsRow w.heap.size 3 1 txt (headT true ++ body l k).length ((headT true ++ body l k).map iv) ∧ Blk wr b10 25 (ac (wantK true l E k))) (fun _ i _ => l.length - (intOf i).toNat)
    case atStart => exact ⟨0, Nat.zero_le _, rfl, HL.out, HO.out, HB.out⟩
    case round =>
      obtain ⟨k, hk, rfl, hl, hO, hBk⟩ := hrel
      have hTl : (headT true ++ body l k).length ≤ 3 + 5 * k := by rw [List.length_append]; have := body_len l k; omega
      by_cases hlt : k < l.length
      · obtain ⟨b, off, rfl, hb, hcell⟩ := HX.out (by omega)
        have hget : num l k = l[k] % 10000 := by unfold num; simp [hlt]
        have hrk := HR.out l[k] (List.getElem_mem hlt)
        have hnm : Int.tmod l[k] 10000 = num l k := by rw [hget]; exact Int.tmod_eq_emod_of_nonneg hrk.1
        have hnr := num_range l k
        have hwk := hid (want_at true l E k (by omega))
        have hws := hid (want_set true l E k (by omega))
        have hbk : body l (k + 1) = body l k ++ sep k ++ dig (num l k) := rfl
        have hc := hcell k _ (by simp [hlt] : (l.map (Value.int .u16))[k]? = some (.int .u16 l[k]))
        have HLo := hid hl
        have HOo := hid hO
        have HBo := hid hBk
        have hleo := hid hl.size
        clear hl hO hBk hcell hget
        generalize l[k] = x at *
        generalize num l k = n at *
        obtain ⟨hn0, hn1⟩ := hnr
        have hb10k : b10 < wr.heap.size := HBo.out.lt
        obtain ⟨wq, rfl⟩ : ∃ wq : World, wq = wr := ⟨_, rfl⟩
        by_cases hk0 : k = 0
        · subst hk0
          rw [show ((0 : Nat) : Int) = 0 from rfl]
          have hsep : sep 0 = [] := rfl
          rw [hsep, List.append_nil] at hbk
          have HT := hid (show headT true ++ body l (0 + 1) = (headT true ++ body l 0) ++ dig n by rw [hbk, List.append_assoc])
          have hT4 : (headT true ++ body l 0).length ≤ 50 := by omega
          generalize headT true ++ body l 0 = T at *
          have c0 : wq.cell? ⟨b, off, none⟩ = some (.int .u16 x) := (HLo.out.cell hb).trans hc
          have co : wq.cell? ⟨b10, 4, none⟩ = some (.int .i64 0) := by rw [HBo.out.cell]; exact hwk.out
          have fo := HBo.out.frozen 4
          go_wp2_with (fail)
          obtain ⟨V, hV⟩ : ∃ V, V = wq.setCell ⟨b10, 4, none⟩ (.int .i64 n) := ⟨_, rfl⟩
          have HBV : Hid (Blk V b10 25 (ac (wantK true l E (0 + 1)))) := hid (by rw [hV]; exact (HBo.out.set_ (4) _).cast hws.out)
          have HOV : Hid (V.ownsRow w.heap.size 3 1 _ T.length (T.map iv)) := hid (by rw [hV]; exact own_set HOo.out (own_blk_ne HOo.out HBo.out (by decide)) _)
          have HLV : Hid (Later w V) := hid (by rw [hV]; exact HLo.out.set hb10 _)
          rw [← hV]
          clear hV co fo c0
          go_loopw [9, 13] (fun txt d wr => ∃ j : Nat, j ≤ 4 ∧ d = .int .i64 (dv j) ∧ Later w wr ∧ wr.ownsRow w.heap.size 3 1 txt (T ++ digs n j).length ((T ++ digs n j).map iv) ∧ Blk wr b10 25 (ac (wantK true l E (0 + 1)))) (fun _ d _ => (intOf d).toNat)
          case atStart => exact ⟨0, by omega, rfl, HLV.out, by simpa [digs] using HOV.out, HBV.out⟩
          case round =>
            obtain ⟨j, hj, rfl, hl4, hO4, hB4⟩ := hrel
            have HL4 := hid hl4
            have HO4 := hid hO4
            have HB4 := hid hB4
            have hle4 := hid hl4.size
            have hdl := digs_len n j
            have hTd : (T ++ digs n j).length ≤ 100 := by rw [List.length_append]; omega
            clear hl4 hO4 hB4
            rcases (show j = 0 ∨ j = 1 ∨ j = 2 ∨ j = 3 ∨ j = 4 by omega) with rfl | rfl | rfl | rfl | rfl
            · simp only [dv]
              have hdv : digs n 1 = digs n 0 ++ digAt n 1000 := rfl
              have q1 : Int.tdiv n 1000 = n / (1000 : Int) := Int.tdiv_eq_ediv_of_nonneg hn0
              have q2 : Int.tmod (n / (1000 : Int)) 10 = n / (1000 : Int) % 10 := Int.tmod_eq_emod_of_nonneg (by omega)
              by_cases hdn : (1000 : Int) ≤ n
              · have d1 : decide ((1000 : Int) ≤ n) = true := decide_eq_true hdn
                have hda : digAt n 1000 = [48 + n / 1000 % 10] := by unfold digAt; rw [if_pos hdn]
                go_wp2_with (first
                  | (at_builtin
                     (refine append_new rfl (.tmp 65) (.tmp 71) 32 rfl w.heap.size 3 j0 _ 1 8 Try.underlying32 hj0 hy0 hy1 hy2 rfl (by decide) _ 3 _ _ _ rfl HO4.out _ 1 [_] rfl rfl rfl (by simp [Value.oneCell']) (by unfold maxLen; omega) (by omega) hle4.out ?_)
                     intro v5 W5 hO5 hg5))
                go_roundw
                case rel =>
                  refine ⟨1, by omega, rfl, Later.grown HL4.out hg5 (own_lt HO4.out (Nat.le_refl _)), ?_, HB4.out.grown hg5 (own_blk_ne HO4.out HB4.out (by decide))⟩
                  rw [hdv, hda, ← List.append_assoc]
                  exact own_snoc hO5
                case measure => first | decide | (simp [intOf]; done) | (simp [intOf]; omega)
              · have d1 : decide ((1000 : Int) ≤ n) = false := decide_eq_false hdn
                have hda : digAt n 1000 = [] := by unfold digAt; rw [if_neg hdn]
                go_wp2_with (fail)
                go_roundw
                case rel => exact ⟨1, by omega, rfl, HL4.out, by rw [hdv, hda, List.append_nil]; exact HO4.out, HB4.out⟩
                case measure => first | decide | (simp [intOf]; done) | (simp [intOf]; omega)
            · simp only [dv]
              have hdv : digs n 2 = digs n 1 ++ digAt n 100 := rfl
              have q1 : Int.tdiv n 100 = n / (100 : Int) := Int.tdiv_eq_ediv_of_nonneg hn0
              have q2 : Int.tmod (n / (100 : Int)) 10 = n / (100 : Int) % 10 := Int.tmod_eq_emod_of_nonneg (by omega)
              by_cases hdn : (100 : Int) ≤ n
              · have d1 : decide ((100 : Int) ≤ n) = true := decide_eq_true hdn
                have hda : digAt n 100 = [48 + n / 100 % 10] := by unfold digAt; rw [if_pos hdn]
                go_wp2_with (first
                  | (at_builtin
                     (refine append_new rfl (.tmp 65) (.tmp 71) 32 rfl w.heap.size 3 j0 _ 1 8 Try.underlying32 hj0 hy0 hy1 hy2 rfl (by decide) _ 3 _ _ _ rfl HO4.out _ 1 [_] rfl rfl rfl (by simp [Value.oneCell']) (by unfold maxLen; omega) (by omega) hle4.out ?_)
                     intro v5 W5 hO5 hg5))
                go_roundw
                case rel =>
                  refine ⟨2, by omega, rfl, Later.grown HL4.out hg5 (own_lt HO4.out (Nat.le_refl _)), ?_, HB4.out.grown hg5 (own_blk_ne HO4.out HB4.out (by decide))⟩
                  rw [hdv, hda, ← List.append_assoc]
                  exact own_snoc hO5
                case measure => first | decide | (simp [intOf]; done) | (simp [intOf]; omega)
              · have d1 : decide ((100 : Int) ≤ n) = false := decide_eq_false hdn
                have hda : digAt n 100 = [] := by unfold digAt; rw [if_neg hdn]
                go_wp2_with (fail)
                go_roundw
                case rel => exact ⟨2, by omega, rfl, HL4.out, by rw [hdv, hda, List.append_nil]; exact HO4.out, HB4.out⟩
                case measure => first | decide | (simp [intOf]; done) | (simp [intOf]; omega)
            · simp only [dv]
              have hdv : digs n 3 = digs n 2 ++ digAt n 10 := rfl
              have q1 : Int.tdiv n 10 = n / (10 : Int) := Int.tdiv_eq_ediv_of_nonneg hn0
              have q2 : Int.tmod (n / (10 : Int)) 10 = n / (10 : Int) % 10 := Int.tmod_eq_emod_of_nonneg (by omega)
              by_cases hdn : (10 : Int) ≤ n
              · have d1 : decide ((10 : Int) ≤ n) = true := decide_eq_true hdn
                have hda : digAt n 10 = [48 + n / 10 % 10] := by unfold digAt; rw [if_pos hdn]
                go_wp2_with (first
                  | (at_builtin
                     (refine append_new rfl (.tmp 65) (.tmp 71) 32 rfl w.heap.size 3 j0 _ 1 8 Try.underlying32 hj0 hy0 hy1 hy2 rfl (by decide) _ 3 _ _ _ rfl HO4.out _ 1 [_] rfl rfl rfl (by simp [Value.oneCell']) (by unfold maxLen; omega) (by omega) hle4.out ?_)
                     intro v5 W5 hO5 hg5))
                go_roundw
                case rel =>
                  refine ⟨3, by omega, rfl, Later.grown HL4.out hg5 (own_lt HO4.out (Nat.le_refl _)), ?_, HB4.out.grown hg5 (own_blk_ne HO4.out HB4.out (by decide))⟩
                  rw [hdv, hda, ← List.append_assoc]
                  exact own_snoc hO5
                case measure => first | decide | (simp [intOf]; done) | (simp [intOf]; omega)
              · have d1 : decide ((10 : Int) ≤ n) = false := decide_eq_false hdn
                have hda : digAt n 10 = [] := by unfold digAt; rw [if_neg hdn]
                go_wp2_with (fail)
                go_roundw
                case rel => exact ⟨3, by omega, rfl, HL4.out, by rw [hdv, hda, List.append_nil]; exact HO4.out, HB4.out⟩
                case measure => first | decide | (simp [intOf]; done) | (simp [intOf]; omega)
            · simp only [dv]
              have hdv : digs n 4 = digs n 3 ++ digAt n 1 := rfl
              have q1 : Int.tdiv n 1 = n / (1 : Int) := Int.tdiv_eq_ediv_of_nonneg hn0
              have q2 : Int.tmod (n / (1 : Int)) 10 = n / (1 : Int) % 10 := Int.tmod_eq_emod_of_nonneg (by omega)
              by_cases hdn : (1 : Int) ≤ n
              · have d1 : decide ((1 : Int) ≤ n) = true := decide_eq_true hdn
                have hda : digAt n 1 = [48 + n % 10] := by unfold digAt; rw [if_pos hdn, Int.ediv_one]
                go_wp2_with (first
                  | (at_builtin
                     (refine append_new rfl (.tmp 65) (.tmp 71) 32 rfl w.heap.size 3 j0 _ 1 8 Try.underlying32 hj0 hy0 hy1 hy2 rfl (by decide) _ 3 _ _ _ rfl HO4.out _ 1 [_] rfl rfl rfl (by simp [Value.oneCell']) (by unfold maxLen; omega) (by omega) hle4.out ?_)
                     intro v5 W5 hO5 hg5))
                go_roundw
                case rel =>
                  refine ⟨4, by omega, rfl, Later.grown HL4.out hg5 (own_lt HO4.out (Nat.le_refl _)), ?_, HB4.out.grown hg5 (own_blk_ne HO4.out HB4.out (by decide))⟩
                  rw [hdv, hda, ← List.append_assoc]
                  exact own_snoc hO5
                case measure => first | decide | (simp [intOf]; done) | (simp [intOf]; omega)
              · have d1 : decide ((1 : Int) ≤ n) = false := decide_eq_false hdn
                have hda : digAt n 1 = [] := by unfold digAt; rw [if_neg hdn]
                go_wp2_with (fail)
                go_roundw
                case rel => exact ⟨4, by omega, rfl, HL4.out, by rw [hdv, hda, List.append_nil]; exact HO4.out, HB4.out⟩
                case measure => first | decide | (simp [intOf]; done) | (simp [intOf]; omega)
            · simp only [dv]
              rw [digs_four, ← HT.out] at HO4
              go_wp2_with (fail)
              go_roundw
              case rel => exact ⟨0 + 1, by omega, by go_num, HL4.out, HO4.out, HB4.out⟩
              case measure => simp [intOf]; omega
        · have hk1 : decide (0 < (k : Int)) = true := decide_eq_true (by omega)
          have hsep : sep k = [59] := by unfold sep; rw [if_pos (by omega)]
          rw [hsep] at hbk
          have HT := hid (show headT true ++ body l (k + 1) = (headT true ++ body l k ++ [59]) ++ dig n by rw [hbk]; simp only [List.append_assoc])
          go_wp2_with (first
            | (at_builtin
               (refine append_new rfl (.tmp 45) (.tmp 46) 32 rfl w.heap.size 3 j0 _ 1 8 Try.underlying32 hj0 hy0 hy1 hy2 rfl (by decide) _ 3 _ _ _ rfl HOo.out _ 1 [_] rfl rfl rfl (by simp [Value.oneCell']) (by unfold maxLen; omega) (by omega) hleo.out ?_)
               intro v3 W3 hO3 hg3
               have HL3 := hid (Later.grown HLo.out hg3 (own_lt HOo.out (Nat.le_refl _)))
               have HB3 := hid (HBo.out.grown hg3 (own_blk_ne HOo.out HBo.out (by decide)))
               have HO3 := hid (own_snoc (x := 59) hO3)
               have c0 : W3.cell? ⟨b, off + k, none⟩ = some (.int .u16 x) := (HL3.out.cell hb).trans hc
               have co : W3.cell? ⟨b10, 4 + k, none⟩ = some (.int .i64 0) := by rw [HB3.out.cell]; exact hwk.out
               have fo := HB3.out.frozen (4 + k)
               clear hO3 hg3))
          obtain ⟨V, hV⟩ : ∃ V, V = W3.setCell ⟨b10, 4 + k, none⟩ (.int .i64 n) := ⟨_, rfl⟩
          have HBV : Hid (Blk V b10 25 (ac (wantK true l E (k + 1)))) := hid (by rw [hV]; exact (HB3.out.set_ (4 + k) _).cast hws.out)
          have HOV : Hid (V.ownsRow w.heap.size 3 1 _ (headT true ++ body l k ++ [59]).length ((headT true ++ body l k ++ [59]).map iv)) := hid (by rw [hV]; exact own_set HO3.out (own_blk_ne HO3.out HB3.out (by decide)) _)
          have HLV : Hid (Later w V) := hid (by rw [hV]; exact HL3.out.set hb10 _)
          rw [← hV]
          clear hV co fo c0
          go_loopw [9, 13] (fun txt d wr => ∃ j : Nat, j ≤ 4 ∧ d = .int .i64 (dv j) ∧ Later w wr ∧ wr.ownsRow w.heap.size 3 1 txt ((headT true ++ body l k ++ [59]) ++ digs n j).length (((headT true ++ body l k ++ [59]) ++ digs n j).map iv) ∧ Blk wr b10 25 (ac (wantK true l E (k + 1)))) (fun _ d _ => (intOf d).toNat)
          case atStart => exact ⟨0, by omega, rfl, HLV.out, by simpa [digs] using HOV.out, HBV.out⟩
          case round =>
            obtain ⟨j, hj, rfl, hl4, hO4, hB4⟩ := hrel
            have HL4 := hid hl4
            have HO4 := hid hO4
            have HB4 := hid hB4
            have hle4 := hid hl4.size
            have hdl := digs_len n j
            have hTd : ((headT true ++ body l k ++ [59]) ++ digs n j).length ≤ 100 := by rw [List.length_append]; simp only [List.length_append, List.length_cons, List.length_nil] at hTl ⊢; omega
            clear hl4 hO4 hB4
            rcases (show j = 0 ∨ j = 1 ∨ j = 2 ∨ j = 3 ∨ j = 4 by omega) with rfl | rfl | rfl | rfl | rfl
            · simp only [dv]
              have hdv : digs n 1 = digs n 0 ++ digAt n 1000 := rfl
              have q1 : Int.tdiv n 1000 = n / (1000 : Int) := Int.tdiv_eq_ediv_of_nonneg hn0
              have q2 : Int.tmod (n / (1000 : Int)) 10 = n / (1000 : Int) % 10 := Int.tmod_eq_emod_of_nonneg (by omega)
              by_cases hdn : (1000 : Int) ≤ n
              · have d1 : decide ((1000 : Int) ≤ n) = true := decide_eq_true hdn
                have hda : digAt n 1000 = [48 + n / 1000 % 10] := by unfold digAt; rw [if_pos hdn]
                go_wp2_with (first
                  | (at_builtin
                     (refine append_new rfl (.tmp 65) (.tmp 71) 32 rfl w.heap.size 3 j0 _ 1 8 Try.underlying32 hj0 hy0 hy1 hy2 rfl (by decide) _ 3 _ _ _ rfl HO4.out _ 1 [_] rfl rfl rfl (by simp [Value.oneCell']) (by unfold maxLen; omega) (by omega) hle4.out ?_)
                     intro v5 W5 hO5 hg5))
                go_roundw
                case rel =>
                  refine ⟨1, by omega, rfl, Later.grown HL4.out hg5 (own_lt HO4.out (Nat.le_refl _)), ?_, HB4.out.grown hg5 (own_blk_ne HO4.out HB4.out (by decide))⟩
                  rw [hdv, hda, ← List.append_assoc]
                  exact own_snoc hO5
                case measure => first | decide | (simp [intOf]; done) | (simp [intOf]; omega)
              · have d1 : decide ((1000 : Int) ≤ n) = false := decide_eq_false hdn
                have hda : digAt n 1000 = [] := by unfold digAt; rw [if_neg hdn]
                go_wp2_with (fail)
                go_roundw
                case rel => exact ⟨1, by omega, rfl, HL4.out, by rw [hdv, hda, List.append_nil]; exact HO4.out, HB4.out⟩
                case measure => first | decide | (simp [intOf]; done) | (simp [intOf]; omega)
            · simp only [dv]
              have hdv : digs n 2 = digs n 1 ++ digAt n 100 := rfl
              have q1 : Int.tdiv n 100 = n / (100 : Int) := Int.tdiv_eq_ediv_of_nonneg hn0
              have q2 : Int.tmod (n / (100 : Int)) 10 = n / (100 : Int) % 10 := Int.tmod_eq_emod_of_nonneg (by omega)
              by_cases hdn : (100 : Int) ≤ n
              · have d1 : decide ((100 : Int) ≤ n) = true := decide_eq_true hdn
                have hda : digAt n 100 = [48 + n / 100 % 10] := by unfold digAt; rw [if_pos hdn]
                go_wp2_with (first
                  | (at_builtin
                     (refine append_new rfl (.tmp 65) (.tmp 71) 32 rfl w.heap.size 3 j0 _ 1 8 Try.underlying32 hj0 hy0 hy1 hy2 rfl (by decide) _ 3 _ _ _ rfl HO4.out _ 1 [_] rfl rfl rfl (by simp [Value.oneCell']) (by unfold maxLen; omega) (by omega) hle4.out ?_)
                     intro v5 W5 hO5 hg5))
                go_roundw
                case rel =>
                  refine ⟨2, by omega, rfl, Later.grown HL4.out hg5 (own_lt HO4.out (Nat.le_refl _)), ?_, HB4.out.grown hg5 (own_blk_ne HO4.out HB4.out (by decide))⟩
                  rw [hdv, hda, ← List.append_assoc]
                  exact own_snoc hO5
                case measure => first | decide | (simp [intOf]; done) | (simp [intOf]; omega)
              · have d1 : decide ((100 : Int) ≤ n) = false := decide_eq_false hdn
                have hda : digAt n 100 = [] := by unfold digAt; rw [if_neg hdn]
                go_wp2_with (fail)
                go_roundw
                case rel => exact ⟨2, by omega, rfl, HL4.out, by rw [hdv, hda, List.append_nil]; exact HO4.out, HB4.out⟩
                case measure => first | decide | (simp [intOf]; done) | (simp [intOf]; omega)
            · simp only [dv]
              have hdv : digs n 3 = digs n 2 ++ digAt n 10 := rfl
              have q1 : Int.tdiv n 10 = n / (10 : Int) := Int.tdiv_eq_ediv_of_nonneg hn0
              have q2 : Int.tmod (n / (10 : Int)) 10 = n / (10 : Int) % 10 := Int.tmod_eq_emod_of_nonneg (by omega)
              by_cases hdn : (10 : Int) ≤ n
              · have d1 : decide ((10 : Int) ≤ n) = true := decide_eq_true hdn
                have hda : digAt n 10 = [48 + n / 10 % 10] := by unfold digAt; rw [if_pos hdn]
                go_wp2_with (first
                  | (at_builtin
                     (refine append_new rfl (.tmp 65) (.tmp 71) 32 rfl w.heap.size 3 j0 _ 1 8 Try.underlying32 hj0 hy0 hy1 hy2 rfl (by decide) _ 3 _ _ _ rfl HO4.out _ 1 [_] rfl rfl rfl (by simp [Value.oneCell']) (by unfold maxLen; omega) (by omega) hle4.out ?_)
                     intro v5 W5 hO5 hg5))
                go_roundw
                case rel =>
                  refine ⟨3, by omega, rfl, Later.grown HL4.out hg5 (own_lt HO4.out (Nat.le_refl _)), ?_, HB4.out.grown hg5 (own_blk_ne HO4.out HB4.out (by decide))⟩
                  rw [hdv, hda, ← List.append_assoc]
                  exact own_snoc hO5
                case measure => first | decide | (simp [intOf]; done) | (simp [intOf]; omega)
              · have d1 : decide ((10 : Int) ≤ n) = false := decide_eq_false hdn
                have hda : digAt n 10 = [] := by unfold digAt; rw [if_neg hdn]
                go_wp2_with (fail)
                go_roundw
                case rel => exact ⟨3, by omega, rfl, HL4.out, by rw [hdv, hda, List.append_nil]; exact HO4.out, HB4.out⟩
                case measure => first | decide | (simp [intOf]; done) | (simp [intOf]; omega)
            · simp only [dv]
              have hdv : digs n 4 = digs n 3 ++ digAt n 1 := rfl
              have q1 : Int.tdiv n 1 = n / (1 : Int) := Int.tdiv_eq_ediv_of_nonneg hn0
              have q2 : Int.tmod (n / (1 : Int)) 10 = n / (1 : Int) % 10 := Int.tmod_eq_emod_of_nonneg (by omega)
              by_cases hdn : (1 : Int) ≤ n
              · have d1 : decide ((1 : Int) ≤ n) = true := decide_eq_true hdn
                have hda : digAt n 1 = [48 + n % 10] := by unfold digAt; rw [if_pos hdn, Int.ediv_one]
                go_wp2_with (first
                  | (at_builtin
                     (refine append_new rfl (.tmp 65) (.tmp 71) 32 rfl w.heap.size 3 j0 _ 1 8 Try.underlying32 hj0 hy0 hy1 hy2 rfl (by decide) _ 3 _ _ _ rfl HO4.out _ 1 [_] rfl rfl rfl (by simp [Value.oneCell']) (by unfold maxLen; omega) (by omega) hle4.out ?_)
                     intro v5 W5 hO5 hg5))
                go_roundw
                case rel =>
                  refine ⟨4, by omega, rfl, Later.grown HL4.out hg5 (own_lt HO4.out (Nat.le_refl _)), ?_, HB4.out.grown hg5 (own_blk_ne HO4.out HB4.out (by decide))⟩
                  rw [hdv, hda, ← List.append_assoc]
                  exact own_snoc hO5
                case measure => first | decide | (simp [intOf]; done) | (simp [intOf]; omega)
              · have d1 : decide ((1 : Int) ≤ n) = false := decide_eq_false hdn
                have hda : digAt n 1 = [] := by unfold digAt; rw [if_neg hdn]
                go_wp2_with (fail)
                go_roundw
                case rel => exact ⟨4, by omega, rfl, HL4.out, by rw [hdv, hda, List.append_nil]; exact HO4.out, HB4.out⟩
                case measure => first | decide | (simp [intOf]; done) | (simp [intOf]; omega)
            · simp only [dv]
              rw [digs_four, ← HT.out] at HO4
              go_wp2_with (fail)
              go_roundw
              case rel => exact ⟨k + 1, by omega, by go_num, HL4.out, HO4.out, HB4.out⟩
              case measure => simp [intOf]; omega
      · obtain rfl : k = l.length := by omega
        have HLe := hid hl
        have HOe := hid hO
        have HBe := hid hBk
        have hlee := hid hl.size
        clear hl hO hBk
        have hlw := hlaw.out
        generalize hTT : headT true ++ body l l.length = T at *
        go_wp2_with (first
          | (at_builtin
             (refine append_new rfl (.tmp 75) (.tmp 77) 32 rfl w.heap.size 3 j0 _ 1 8 Try.underlying32 hj0 hy0 hy1 hy2 rfl (by decide) _ 3 _ _ _ rfl HOe.out _ 1 [_] rfl rfl rfl (by simp [Value.oneCell']) (by unfold maxLen; omega) (by omega) hlee.out ?_)
             intro v3 W3 hO3 hg3))
        have hWK : ({ actK true l l.length with kind := 4, rune := E } : Ac) = wantK true l E l.length := rfl
        rw [hWK] at hlw
        have HB3 := hid (HBe.out.grown hg3 (own_blk_ne HOe.out HBe.out (by decide)))
        have HL3 := hid (Later.grown HLe.out hg3 (own_lt HOe.out (Nat.le_refl _)))
        generalize wantK true l E l.length = R at *
        refine (acts13 step9 .zero v3 (T ++ [E]) W3 (by simp; omega) (Arr.of_own (own_snoc hO3))).mono ?_
        rw [hlw]
        rintro e W4 ⟨v4, rfl, hl4, hO4⟩
        obtain ⟨qa, qc, hq⟩ := own_is_slice hO4
        subst hq
        obtain ⟨g4, rfl, _, hg4, _, _, hc4⟩ := own_slice hO4 (by show 0 < 1; decide)
        have HB4 := hid (HB3.out.later hl4)
        have HL4 := hid (HL3.out.trans hl4)
        clear hl4 hO4 HB3 HL3 hO3 hg3 HBe HLe HOe hlee
        (try simp only [])
        (iterate 18 go_step)
        obtain ⟨X, hX⟩ : ∃ X, X = W4.alloc (.cells (pc .zero) 27) := ⟨_, rfl⟩
        have hlX : Later W4 X := by rw [hX]; exact by repeat (first | (with_reducible exact Later.refl _) | with_reducible apply Later.latr | with_reducible apply Later.alloc | with_reducible apply Later.drew | (with_reducible refine Later.set ?_ (by (simp; try omega)) _))
        have HBX : Hid (Blk X W4.heap.size 27 (pc .zero)) := hid (by rw [hX]; exact Blk.new W4 27 _)
        rw [← hX]
        have hg4x : g4 < X.heap.size := Nat.lt_of_lt_of_le hg4 hlX.size
        replace HB4 := hid (HB4.out.later hlX)
        replace HL4 := hid (HL4.out.trans hlX)
        have gc0 : X.cell? ⟨g4, 0, none⟩ = some (.int .i64 R.kind) := (hlX.cell hg4).trans (hc4 0 _ rfl)
        have gc1 : X.cell? ⟨g4, 1, none⟩ = some (.int .i64 R.rune) := (hlX.cell hg4).trans (hc4 1 _ rfl)
        have gc2 : X.cell? ⟨g4, 2, none⟩ = some (.bool R.mark) := (hlX.cell hg4).trans (hc4 2 _ rfl)
        have gc3 : X.cell? ⟨g4, 3, none⟩ = some (.int .i64 R.many) := (hlX.cell hg4).trans (hc4 3 _ rfl)
        have gc4 : X.cell? ⟨g4, 4, none⟩ = some (.int .i64 R.p0) := (hlX.cell hg4).trans (hc4 4 _ rfl)
        have gc5 : X.cell? ⟨g4, 5, none⟩ = some (.int .i64 R.p1) := (hlX.cell hg4).trans (hc4 5 _ rfl)
        have gc6 : X.cell? ⟨g4, 6, none⟩ = some (.int .i64 R.p2) := (hlX.cell hg4).trans (hc4 6 _ rfl)
        have gc7 : X.cell? ⟨g4, 7, none⟩ = some (.int .i64 R.p3) := (hlX.cell hg4).trans (hc4 7 _ rfl)
        have gc8 : X.cell? ⟨g4, 8, none⟩ = some (.int .i64 R.p4) := (hlX.cell hg4).trans (hc4 8 _ rfl)
        have gc9 : X.cell? ⟨g4, 9, none⟩ = some (.int .i64 R.p5) := (hlX.cell hg4).trans (hc4 9 _ rfl)
        have gc10 : X.cell? ⟨g4, 10, none⟩ = some (.int .i64 R.p6) := (hlX.cell hg4).trans (hc4 10 _ rfl)
        have gc11 : X.cell? ⟨g4, 11, none⟩ = some (.int .i64 R.p7) := (hlX.cell hg4).trans (hc4 11 _ rfl)
        clear hX hlX hc4
        generalize W4.heap.size = b15 at *
        (obtain ⟨hcc0, hcc1, hcc2, hcc3, hcc4, hcc5, hcc6, hcc7, hcc8, hcc9, hcc10, hcc11, hfc0, hfc1, hfc2, hfc3, hfc4, hfc5, hfc6, hfc7, hfc8, hfc9, hfc10, hfc11, hgc⟩ := Blk.at12 (HB4.out))
        (obtain ⟨hcz0, hcz1, hcz2, hcz3, hcz4, hcz5, hcz6, hcz7, hcz8, hcz9, hcz10, hcz11, hcz12, hfz0, hfz1, hfz2, hfz3, hfz4, hfz5, hfz6, hfz7, hfz8, hfz9, hfz10, hfz11, hfz12, hgz⟩ := Blk.at13 (HBX.out))
        clear HB4 HBX
        go_wp2_with (fail)
        (refine wp_region_calm (by kernel_rfl) (by kernel_rfl) ?_; (repeat (go_big_quiet_step ((fail)))); refine wpQuiet_nil ?_; rintro _ ⟨x, rfl⟩; go_wp2_with (fail))
        go_ret
        exact ⟨rfl, by repeat (first | (with_reducible exact Later.refl _) | (with_reducible exact HL4.out) | with_reducible apply Later.latr | with_reducible apply Later.alloc | with_reducible apply Later.drew | (with_reducible refine Later.set ?_ (by (simp; try omega)) _))⟩
end Go.Proofs.Ytjgaljnojhkimaa
