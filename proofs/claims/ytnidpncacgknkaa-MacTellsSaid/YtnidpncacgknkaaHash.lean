/- A hash that is under way: what its cells say; what adding a part makes of it. Of parts of at most a million bytes. -/
import Derived.Test.YtnidpncacgknkaaMixed
import Derived.Test.YtnidpncacgknkaaEq
import Derived.Test.YtnidpncacgknkaaSpet
import Derived.Test.YtnidpncacgknkaaBlocks
import Derived.Deep.RegionWith
import Derived.Deep.DrawnRows
namespace Go.Proofs.Ytnidpncacgknkaa
open Go.RowKit
attribute [local go_sem] ite_max ite_min
attribute [local go_sem ↓] Go.wp_at_zero Go.wp_at_succ
attribute [local go_sem] h_lt1 h_lt2 h_lt3 h_lt4 h_lt5 h_lt6 h_eq1 h_qe1 h_eq2 h_qe2 h_eq3 h_qe3 h_eq4 h_qe4 h_eq5 h_qe5 h_eq6 h_qe6
/-- a slice that does not lie in block g -/
def offB (v : Value) (g : Nat) : Prop := ∀ b off n c, v = .slice (some ⟨b, off, none⟩) n c → 0 < n → b ≠ g
theorem Arr.wr {w w' : World} {size n g : Nat} {v : Value} {xs : List Value} (h : Arr w size v n xs) (hw : Wr w w' g) (ho : offB v g) : Arr w' size v n xs := by
  obtain ⟨h1, a, cap, rfl, h3, h4, h5⟩ := h
  refine ⟨h1, a, cap, rfl, h3, h4, fun hn => ?_⟩
  obtain ⟨b, off, rfl, hb, hc⟩ := h5 hn
  have hne : b ≠ g := ho _ _ _ _ rfl hn
  refine ⟨b, off, rfl, Nat.lt_of_lt_of_le hb hw.size, fun j u hu => ?_⟩
  rw [← hc j u hu]
  unfold World.cell?
  rw [hw.block b hb (by intro hh; injection hh; omega)]
theorem own_shape {w : World} {base : Nat} {e : TypeId} {size : Nat} {v : Value} {n : Nat} {xs : List Value} (h : w.ownsRow base e size v n xs) : Shape v := by
  obtain ⟨_, ⟨h2, _⟩ | ⟨g, cap, cur, h3, _⟩⟩ := h
  · exact .inl h2
  · exact .inr ⟨_, _, _, h3⟩
theorem own_off {w : World} {base : Nat} {e : TypeId} {size : Nat} {v : Value} {n : Nat} {xs : List Value} {g : Nat} (h : w.ownsRow base e size v n xs) (hg : g < base) : offB v g := by
  intro b off m c hv _
  obtain ⟨_, ⟨h2, _⟩ | ⟨g', cap, cur, h3, h4, _⟩⟩ := h
  · rw [h2] at hv; injection hv with hv; cases hv
  · rw [h3] at hv
    injection hv with hv
    injection hv with hv
    injection hv with hv
    omega
theorem arr_off {w : World} {size n g : Nat} {v : Value} {xs : List Value} (h : Arr w size v n xs) (hg : w.heap.size ≤ g) : offB v g := by
  intro b off m c hv hm
  obtain ⟨_, a, cap, hv2, _, _, h5⟩ := h
  rw [hv] at hv2
  injection hv2 with e1 e2 e3
  subst e2
  obtain ⟨b', off', ha, hb, _⟩ := h5 hm
  rw [← e1] at ha
  injection ha with ha
  injection ha with ha
  omega
/-- what the cells of a hash say, of what was added -/
def HashAt (W : World) (g : Nat) (t : List B8) : Prop :=
  ∃ (s : S8) (v : Value) (r : List B8) (begun : Bool), Blk W g 39 (hl s v t.length begun).toArray ∧ Arr W 1 v r.length (bl r) ∧ Shape v ∧ offB v g ∧
    ((begun = true ∧ s = state t ∧ r = left t) ∨ (begun = false ∧ t = [] ∧ s = zero8 ∧ v = .slice none 0 0 ∧ r = []))
theorem info5 : (Try.prog.info? 5).map (fun i => (i.zero, i.size, i.bytes)) = some (some (.int .u8 0), 1, 1) := by kernel_rfl
theorem list_of_wp {P : Program} {ops : Array Oper} {o : Oper} {rest : List Oper} {a : Act} {Q : Exit → Act → World → Prop} {w : World} (hgd : o.guard = none) (h : o.wp P a w (wpList P ops Q rest) Q) : wpList P ops Q (o :: rest) a w := by
  unfold wpList
  rw [if_pos (by simp [Region.wanted, hgd])]
  exact .inl h

theorem plain_j (n j : Nat) (h : 64 ≤ n - 64 * j) : 64 * (j + 1) ≤ n ∧ n - 64 * (j + 1) = n - 64 * j - 64 ∧ n - 64 * j - 64 < n - 64 * j := by omega
theorem arr_zero {w : World} (a : Option Addr) (cap : Nat) (h : cap ≤ 9223372036854775807) : Arr w 1 (.slice a 0 cap) 0 [] := ⟨rfl, a, cap, rfl, Nat.zero_le _, by unfold maxLen; omega, fun h => absurd h (by omega)⟩
theorem blk_sl {W : World} {g : Nat} {s : S8} {v : Value} {n : Int} {b : Bool} (s' : S8) (h : Blk W g 39 (hl s v n b).toArray) : Blk (W.setCells g 0 (sl s')) g 39 (hl s' v n b).toArray :=
  ((((((((h.set_ 0 (uv s'.a)).set_ 1 (uv s'.b)).set_ 2 (uv s'.c)).set_ 3 (uv s'.d)).set_ 4 (uv s'.e)).set_ 5 (uv s'.f)).set_ 6 (uv s'.g)).set_ 7 (uv s'.h)).cast (by simp [hl])
theorem arr_head {w : World} {a : Option Addr} {n cap k : Nat} {xs : List Value} (h : Arr w 1 (.slice a n cap) n xs) (hk : k ≤ n) : Arr w 1 (.slice a k cap) k (xs.take k) := by
  obtain ⟨h1, a', c', hv, h3, h4, h5⟩ := h
  injection hv with hv1 hv2 hv3
  subst hv1 hv3
  refine ⟨by simp at h1 ⊢; omega, a, cap, rfl, by omega, h4, fun hn => ?_⟩
  obtain ⟨b, off, ha, hb, hc⟩ := h5 (by omega)
  refine ⟨b, off, ha, hb, fun j u hu => hc j u ?_⟩
  have hj : j < k := by
    have := (List.getElem?_eq_some_iff.1 hu).1
    simp at this
    omega
  rw [List.getElem?_take_of_lt hj] at hu
  exact hu
theorem arr_tail {w : World} {b off n cap k : Nat} {xs : List Value} (h : Arr w 1 (.slice (some ⟨b, off, none⟩) n cap) n xs) (hk : k ≤ n) : Arr w 1 (.slice (some ⟨b, off + k, none⟩) (n - k) (cap - k)) (n - k) (xs.drop k) := by
  obtain ⟨h1, a', c', hv, h3, h4, h5⟩ := h
  injection hv with hv1 hv2 hv3
  subst hv3
  refine ⟨by simp at h1 ⊢; omega, _, _, rfl, by omega, by omega, fun hn => ?_⟩
  obtain ⟨b', off', ha, hb, hc⟩ := h5 (by omega)
  rw [← hv1] at ha
  injection ha with ha
  injection ha with ha1 ha2
  subst ha1 ha2
  refine ⟨b, off + k, rfl, hb, fun j u hu => ?_⟩
  rw [List.getElem?_drop] at hu
  rw [Nat.add_assoc]
  exact hc _ u hu
theorem Wr.grown {w w' w'' : World} {g : Nat} {row : Option Nat} (h : Wr w w' g) (k : w'.grownBy w'' row) (hr : ∀ i, row = some i → w.heap.size ≤ i) : Wr w w'' g :=
  ⟨k.os.trans h.os, k.tape.trans h.tape, k.output.trans h.output, Nat.le_trans h.size k.size, fun i hi hne => (k.block i (Nat.lt_of_lt_of_le hi h.size) (fun e => by have := hr i e.symm; omega)).trans (h.block i hi hne)⟩
/-- how long the rest of a hash is -/
def lenAt (w : World) (g : Nat) : Nat := match w.cell? ⟨g, 8, none⟩ with | some (.slice _ n _) => n | _ => 0
theorem lenAt_of {w : World} {g : Nat} {x : Option Addr} {n c : Nat} (h : w.cell? ⟨g, 8, none⟩ = some (.slice x n c)) : lenAt w g = n := by unfold lenAt; rw [h]
set_option maxRecDepth 100000 in
set_option maxHeartbeats 8000000 in
theorem add19 (g : Nat) (t : List B8) (v : Value) (l : List B8) (w : World) (hH : HashAt w g t) (hv : Arr w 1 v l.length (bl l)) (hsh : Shape v) (hoff : offB v g) (hlen : t.length + l.length ≤ 1000000) :
    Calls Try.prog 19 #[.pointer (some ⟨g, 0, none⟩), v] w fun e w' => e = .returned (.tuple #[]) ∧ Wr w w' g ∧ HashAt w' g (t ++ l) := by
  obtain ⟨s, rv, r, begun, hB, hA, hS, hO, hcase⟩ := hH
  obtain ⟨i0, hi0, hz0, hz1, hz2⟩ := info_parts info5
  have hq := hid (left_append t l)
  have hrl : r.length ≤ t.length ∧ r = left t ∧ (begun = true → s = state t) ∧ (begun = false → state t = first8) := by
    rcases hcase with ⟨_, hs, rfl⟩ | ⟨hb, rfl, _, _, rfl⟩
    · exact ⟨by rw [left_len]; omega, rfl, fun _ => hs, fun h => by simp_all⟩
    · exact ⟨by simp, rfl, fun h => by simp_all, fun _ => rfl⟩
  obtain ⟨hrl, hr, hs1, hs0⟩ := hrl
  rw [← hr] at hq
  clear hcase hr
  have HV := hid hv
  have HA := hid hA
  have HS := hid hS
  have HSH := hid hsh
  have HO := hid hO
  have HOF := hid hoff
  have hg := hB.lt
  obtain ⟨_, a, cap, rfl, hcap, hmax, _⟩ := hv
  obtain ⟨_, ra, rcap, rfl, hrcap, hrmax, _⟩ := hA
  clear hmax hrmax hsh hS hO hoff
  have c10 : w.cell? ⟨g, 10, none⟩ = some (.bool begun) := hB.cell 10
  have c9 : w.cell? ⟨g, 9, none⟩ = some (.int .i64 t.length) := hB.cell 9
  have c8 : w.cell? ⟨g, 8, none⟩ = some (.slice ra r.length rcap) := hB.cell 8
  have f10 := hB.frozen 10
  have f9 := hB.frozen 9
  have f8 := hB.frozen 8
  cases begun
  · have hst := hs0 rfl
    (go_enter Try.func19, Try.ntmps19; go_wp2_with (fail))
    refine (first30 _).later.mono ?_
    rintro e W1 ⟨rfl, hl1⟩
    have hB1 := hB.later hl1
    have ht1 := hB1.there (o := 0) (n := 8) (by simp [hl])
    have d10 : W1.cell? ⟨g, 10, none⟩ = some (.bool false) := hB1.cell 10
    have d9 : W1.cell? ⟨g, 9, none⟩ = some (.int .i64 t.length) := hB1.cell 9
    have d8 : W1.cell? ⟨g, 8, none⟩ = some (.slice ra r.length rcap) := hB1.cell 8
    have e10 := hB1.frozen 10
    have e9 := hB1.frozen 9
    have e8 := hB1.frozen 8
    have HWX := hid ((wr_sets ((wr_refl w g).later hl1) (sl first8) 0).set 10 (.bool true))
    have HBX := hid (((blk_sl first8 hB1).set_ 10 (.bool true)).cast (show _ = (hl (state t) (.slice ra r.length rcap) t.length true).toArray by rw [hst]; simp [hl]))
    (try simp only [])
    (iterate 18 go_step)
    obtain ⟨X1, hX1⟩ : ∃ X1, X1 = (W1.setCells g 0 (sl first8)).setCell ⟨g, 10, none⟩ (.bool true) := ⟨_, rfl⟩
    rw [← hX1] at HWX HBX
    rw [← hX1]
    clear hX1 hB1 hB hl1 c10 c9 c8 f10 f9 f8 d10 d9 d8 e10 e9 e8 ht1
    have c9 : X1.cell? ⟨g, 9, none⟩ = some (.int .i64 t.length) := HBX.out.cell 9
    have c8 : X1.cell? ⟨g, 8, none⟩ = some (.slice ra r.length rcap) := HBX.out.cell 8
    have f9 := HBX.out.frozen 9
    have f8 := HBX.out.frozen 8
    go_wp2_with (first
      | (at_builtin
         refine list_of_wp (by rfl) ?_
         have A1 := HA.out.wr (HWX.out.set 9 (.int .i64 (t.length + l.length))) HO.out
         have A2 := (HWX.out.set 9 (.int .i64 (t.length + l.length))).size
         have A3 := World.ownsRow_nil (X1.setCell ⟨g, 9, none⟩ (.int .i64 (t.length + l.length))) w.heap.size 5 1
         refine wp_append_arr _ (.const (.slice none 0 0)) (.tmp 31) 22 rfl w.heap.size 5 i0 _ 1 1 Try.underlying22 hi0 hz0 hz1 hz2 rfl (by decide) (.slice none 0 0) 0 [] rfl A3 _ _ _ rfl A1 HS.out (bl_one _) (by unfold maxLen; omega) (by omega) A2 ?_
         clear A1 A2 A3
         intro v1 W2 hO2 hg2
         replace hO2 : W2.ownsRow w.heap.size 5 1 v1 r.length (bl r) := by simpa using hO2
         have HW2 := hid ((HWX.out.set 9 (.int .i64 (t.length + l.length))).grown hg2 (by intro i hi; cases hi)))
      | (at_builtin
         refine list_of_wp (by rfl) ?_
         have A1 := HV.out.wr HW2.out HOF.out
         refine wp_append_arr _ (.tmp 32) (.tmp 33) 22 rfl w.heap.size 5 i0 _ 1 1 Try.underlying22 hi0 hz0 hz1 hz2 rfl (by decide) v1 _ _ rfl hO2 _ _ _ rfl A1 HSH.out (bl_one _) (by unfold maxLen; omega) (by omega) HW2.out.size ?_
         clear A1
         intro v2 W3 hO3 hg3
         have HW3 := hid (HW2.out.grown hg3 (own_lt hO2 (Nat.le_refl _)))
         have hB3 := (((HBX.out.set_ 9 (.int .i64 (t.length + l.length))).grown hg2 (by intro hh; cases hh)).grown hg3 (fun hh => by have := (hO2.lt _ hh.symm).1; omega)).cast (show _ = (hl (state t) (.slice ra r.length rcap) (t.length + l.length) true).toArray from rfl)
         have e8 : W3.cell? ⟨g, 8, none⟩ = some (.slice ra r.length rcap) := hB3.cell 8
         have e8f := hB3.frozen 8
         have HSH2 := hid (own_shape hO3)
         have HOF2 := hid (own_off hO3 hg)
         have HA3 := hid (Arr.of_own hO3)
         have HB3 := hid hB3
         obtain ⟨a2, c2, hv2⟩ := own_is_slice hO3
         subst hv2
         clear hO3 hg3 hO2 hg2 HW2 hB3))
    obtain ⟨X, hX⟩ : ∃ X, X = W3.setCell ⟨g, 8, none⟩ (.slice a2 (r.length + l.length) c2) := ⟨_, rfl⟩
    have HBX3 : Hid (Blk X g 39 (hl (state t) (.slice a2 (r.length + l.length) c2) (t.length + l.length) true).toArray) := hid (by rw [hX]; exact HB3.out.set_ 8 _)
    have HWX3 : Hid (Wr w X g) := hid (by rw [hX]; exact HW3.out.set 8 _)
    have HAX3 : Hid (Arr X 1 (.slice a2 (r.length + l.length) c2) (r.length + l.length) (bl (r ++ l))) := hid (by
      have h9 := HA3.out.wr ((wr_refl W3 g).set 8 (.slice a2 (r.length + l.length) c2)) HOF2.out
      rw [← hX] at h9
      rw [bl, List.map_append]
      exact h9)
    rw [← hX]
    clear hX HB3 HW3 HA3 e8 e8f
    rw [← List.length_append] at HBX3 HAX3 HSH2 HOF2
    rw [← List.length_append]
    generalize r ++ l = q at *
    generalize hn : ((t.length : Int) + (l.length : Int)) = n at *
    go_loopw [] (fun wr => ∃ (j : Nat) (vj : Value), 64 * j ≤ q.length ∧ Wr w wr g ∧ Blk wr g 39 (hl (blocks j (state t) q) vj n true).toArray ∧ Arr wr 1 vj (q.length - 64 * j) (bl (q.drop (64 * j))) ∧ Shape vj ∧ offB vj g) (fun wr => lenAt wr g)
    case atStart => exact ⟨0, _, Nat.zero_le _, HWX3.out, HBX3.out, HAX3.out, HSH2.out, HOF2.out⟩
    case round =>
      obtain ⟨j, vj, hj, hWr, hB, hA, hS, hO⟩ := hrel
      have HAj := hid hA
      obtain ⟨_, x, cj, rfl, hcj, hmj, hxj⟩ := hA
      have c8 : wr.cell? ⟨g, 8, none⟩ = some (.slice x (q.length - 64 * j) cj) := hB.cell 8
      have f8 := hB.frozen 8
      have hgw := hB.lt
      by_cases h64 : 64 ≤ q.length - 64 * j
      · have hd : decide (64 ≤ ((q.length - 64 * j : Nat) : Int)) = true := decide_eq_true (by omega)
        obtain ⟨b, off, rfl, hb, _⟩ := hxj (by omega)
        have hne : b ≠ g := hO _ _ _ _ rfl (by omega)
        have ht := hB.there (o := 0) (n := 8) (by simp [hl])
        have ha : aggAt wr g 0 8 = sagg (blocks j (state t) q) := by
          unfold aggAt
          rw [hB.cells 0 8 (sl (blocks j (state t) q)) rfl rfl]
          rfl
        have hlt : ((q.drop (64 * j)).take 64).length = 64 := by simp; omega
        obtain ⟨e3, e1, e2⟩ := plain_j q.length j h64
        have e4 : (q.drop (64 * j)).length = q.length - 64 * j := by simp
        generalize hmq : q.length - 64 * j = m at *
        go_wp2_with (fail)
        have ht' : wr.drew.there g 0 8 := ht
        have ha' : aggAt wr.drew g 0 8 = sagg (blocks j (state t) q) := ha
        have hr64 := arr_head HAj.out (Nat.le_of_lt_succ (Nat.lt_succ_of_le h64))
        generalize hst' : blocks j (state t) q = sj at *
        have HR64 : Hid (Arr wr 1 (.slice (some ⟨b, off, none⟩) 64 cj) 64 (bl ((q.drop (64 * j)).take 64))) := hid (by rw [bl, List.map_take]; exact hr64)
        clear hr64
        have hc0 : (cj = 0) = False := by simp only [eq_iff_iff, iff_false]; omega
        have b1 : (64 : Int) ≤ (cj : Int) := by omega
        have b2 : (64 : Int) ≤ (m : Int) := by omega
        have b3 : (m : Int) ≤ (cj : Int) := by omega
        rcases Nat.lt_or_ge 64 cj with hc64 | hc64
        · have hcne : (cj = 64) = False := by simp only [eq_iff_iff, iff_false]; omega
          go_region_with (first | (go_at_call 31; refine (mixed31 sj _ ((q.drop (64 * j)).take 64) hlt _ ?_).later.mono ?_; (focus (exact HR64.out.later (by repeat (first | (with_reducible exact Later.refl _) | (with_reducible assumption) | with_reducible apply Later.latr | with_reducible apply Later.alloc | with_reducible apply Later.drew | (with_reducible refine Later.set ?_ (by (simp; try omega)) _))))); rintro e W2 ⟨rfl, hl2⟩; have hL2 : Later wr W2 := Later.trans (a := wr) (by repeat (first | (with_reducible exact Later.refl _) | (with_reducible assumption) | with_reducible apply Later.latr | with_reducible apply Later.alloc | with_reducible apply Later.drew | (with_reducible refine Later.set ?_ (by (simp; try omega)) _))) hl2; have ht2 := (hB.later hL2).there (o := 0) (n := 8) (by simp [hl]); have f2 := (hB.later hL2).frozen 8; have c2 : W2.cell? ⟨g, 8, none⟩ = some (.slice (some ⟨b, off, none⟩) m cj) := (hB.later hL2).cell 8))
          all_goals
            go_wp2_with (fail)
            go_roundw
            case rel =>
              refine ⟨j + 1, _, e3, (wr_sets (hWr.later hL2) _ _).set 8 _, ((blk_sl (mix sj ((q.drop (64 * j)).take 64)) (hB.later hL2)).set_ 8 _).cast (by rw [blocks_snoc, hst']; rfl), ?_, .inr ⟨_, _, _, rfl⟩, fun _ _ _ _ hv _ => by injection hv with hv; injection hv with hv; injection hv with hv; subst hv; exact hne⟩
              have hw8 := (wr_sets (wr_refl W2 g) (sl (mix sj ((q.drop (64 * j)).take 64))) 0).set 8 (.slice (some ⟨b, off + 64, none⟩) (m - 64) (cj - 64))
              rw [show q.length - 64 * (j + 1) = m - 64 by omega, show 64 * (j + 1) = 64 * j + 64 by omega, ← List.drop_drop]
              exact ((by rw [bl, List.map_drop]; exact arr_tail HAj.out h64 : Arr wr 1 (.slice (some ⟨b, off + 64, none⟩) (m - 64) (cj - 64)) (m - 64) (bl ((q.drop (64 * j)).drop 64))).later hL2).wr hw8 (fun _ _ _ _ hv _ => by injection hv with hv; injection hv with hv; injection hv with hv; subst hv; exact hne)
            case measure =>
              rw [lenAt_of c8, lenAt_of (show ((W2.setCells g 0 (sl (mix sj ((q.drop (64 * j)).take 64)))).setCell ⟨g, 8, none⟩ (.slice (some ⟨b, off + 64, none⟩) (m - 64) (cj - 64))).cell? ⟨g, 8, none⟩ = some (.slice (some ⟨b, off + 64, none⟩) (m - 64) (cj - 64)) from by rw [((blk_sl (mix sj ((q.drop (64 * j)).take 64)) (hB.later hL2)).set_ 8 _).cell 8]; rfl)]
              exact e2
        · obtain rfl : cj = 64 := by omega
          obtain rfl : m = 64 := by omega
          go_region_with (first | (go_at_call 31; refine (mixed31 sj _ ((q.drop (64 * j)).take 64) hlt _ ?_).later.mono ?_; (focus (exact HR64.out.later (by repeat (first | (with_reducible exact Later.refl _) | (with_reducible assumption) | with_reducible apply Later.latr | with_reducible apply Later.alloc | with_reducible apply Later.drew | (with_reducible refine Later.set ?_ (by (simp; try omega)) _))))); rintro e W2 ⟨rfl, hl2⟩; have hL2 : Later wr W2 := Later.trans (a := wr) (by repeat (first | (with_reducible exact Later.refl _) | (with_reducible assumption) | with_reducible apply Later.latr | with_reducible apply Later.alloc | with_reducible apply Later.drew | (with_reducible refine Later.set ?_ (by (simp; try omega)) _))) hl2; have ht2 := (hB.later hL2).there (o := 0) (n := 8) (by simp [hl]); have f2 := (hB.later hL2).frozen 8; have c2 : W2.cell? ⟨g, 8, none⟩ = some (.slice (some ⟨b, off, none⟩) 64 64) := (hB.later hL2).cell 8))
          all_goals
            go_wp2_with (fail)
            go_roundw
            case rel =>
              refine ⟨j + 1, _, e3, (wr_sets (hWr.later hL2) _ _).set 8 _, ((blk_sl (mix sj ((q.drop (64 * j)).take 64)) (hB.later hL2)).set_ 8 _).cast (by rw [blocks_snoc, hst']; rfl), ?_, .inr ⟨_, _, _, rfl⟩, fun _ _ _ _ hv _ => by injection hv with hv; injection hv with hv; injection hv with hv; subst hv; exact hne⟩
              have hw8 := (wr_sets (wr_refl W2 g) (sl (mix sj ((q.drop (64 * j)).take 64))) 0).set 8 (.slice (some ⟨b, off, none⟩) 0 0)
              rw [show q.length - 64 * (j + 1) = 0 by omega, show 64 * (j + 1) = 64 * j + 64 by omega, ← List.drop_drop]
              exact by rw [List.drop_eq_nil_of_le (Nat.le_of_eq e4)]; exact arr_zero _ _ (Nat.zero_le _)
            case measure =>
              rw [lenAt_of c8, lenAt_of (show ((W2.setCells g 0 (sl (mix sj ((q.drop (64 * j)).take 64)))).setCell ⟨g, 8, none⟩ (.slice (some ⟨b, off, none⟩) 0 0)).cell? ⟨g, 8, none⟩ = some (.slice (some ⟨b, off, none⟩) 0 0) from by rw [((blk_sl (mix sj ((q.drop (64 * j)).take 64)) (hB.later hL2)).set_ 8 _).cell 8]; rfl)]
              exact e2
      · have hd : decide (64 ≤ ((q.length - 64 * j : Nat) : Int)) = false := decide_eq_false (by omega)
        go_wp2_with (fail)
        refine bodyPost_end (v := .tuple #[]) ?_ rfl ?_
        · simp [results, Try.results19]
        obtain ⟨hq1, hq2⟩ := hq.out
        have hjq : j = q.length / 64 := by omega
        subst hjq
        refine ⟨rfl, hWr, blocks (q.length / 64) (state t) q, _, left q, true, ?_, ?_, hS, hO, .inl ⟨rfl, hq2.symm, hq1.symm⟩⟩
        · rw [List.length_append, Int.natCast_add, hn]
          exact hB
        · have e : (left q).length = q.length - 64 * (q.length / 64) := left_len' q
          rw [e]
          exact HAj.out
  · have HWX := hid (wr_refl w g)
    have hst := hs1 rfl
    rw [hst] at hB
    have HBX := hid hB
    clear hB
    (go_enter Try.func19, Try.ntmps19)
    go_wp2_with (first
      | (at_builtin
         refine list_of_wp (by rfl) ?_
         have A1 := HA.out.wr (HWX.out.set 9 (.int .i64 (t.length + l.length))) HO.out
         have A2 := (HWX.out.set 9 (.int .i64 (t.length + l.length))).size
         have A3 := World.ownsRow_nil (w.setCell ⟨g, 9, none⟩ (.int .i64 (t.length + l.length))) w.heap.size 5 1
         refine wp_append_arr _ (.const (.slice none 0 0)) (.tmp 31) 22 rfl w.heap.size 5 i0 _ 1 1 Try.underlying22 hi0 hz0 hz1 hz2 rfl (by decide) (.slice none 0 0) 0 [] rfl A3 _ _ _ rfl A1 HS.out (bl_one _) (by unfold maxLen; omega) (by omega) A2 ?_
         clear A1 A2 A3
         intro v1 W2 hO2 hg2
         replace hO2 : W2.ownsRow w.heap.size 5 1 v1 r.length (bl r) := by simpa using hO2
         have HW2 := hid ((HWX.out.set 9 (.int .i64 (t.length + l.length))).grown hg2 (by intro i hi; cases hi)))
      | (at_builtin
         refine list_of_wp (by rfl) ?_
         have A1 := HV.out.wr HW2.out HOF.out
         refine wp_append_arr _ (.tmp 32) (.tmp 33) 22 rfl w.heap.size 5 i0 _ 1 1 Try.underlying22 hi0 hz0 hz1 hz2 rfl (by decide) v1 _ _ rfl hO2 _ _ _ rfl A1 HSH.out (bl_one _) (by unfold maxLen; omega) (by omega) HW2.out.size ?_
         clear A1
         intro v2 W3 hO3 hg3
         have HW3 := hid (HW2.out.grown hg3 (own_lt hO2 (Nat.le_refl _)))
         have hB3 := (((HBX.out.set_ 9 (.int .i64 (t.length + l.length))).grown hg2 (by intro hh; cases hh)).grown hg3 (fun hh => by have := (hO2.lt _ hh.symm).1; omega)).cast (show _ = (hl (state t) (.slice ra r.length rcap) (t.length + l.length) true).toArray from rfl)
         have e8 : W3.cell? ⟨g, 8, none⟩ = some (.slice ra r.length rcap) := hB3.cell 8
         have e8f := hB3.frozen 8
         have HSH2 := hid (own_shape hO3)
         have HOF2 := hid (own_off hO3 hg)
         have HA3 := hid (Arr.of_own hO3)
         have HB3 := hid hB3
         obtain ⟨a2, c2, hv2⟩ := own_is_slice hO3
         subst hv2
         clear hO3 hg3 hO2 hg2 HW2 hB3))
    obtain ⟨X, hX⟩ : ∃ X, X = W3.setCell ⟨g, 8, none⟩ (.slice a2 (r.length + l.length) c2) := ⟨_, rfl⟩
    have HBX3 : Hid (Blk X g 39 (hl (state t) (.slice a2 (r.length + l.length) c2) (t.length + l.length) true).toArray) := hid (by rw [hX]; exact HB3.out.set_ 8 _)
    have HWX3 : Hid (Wr w X g) := hid (by rw [hX]; exact HW3.out.set 8 _)
    have HAX3 : Hid (Arr X 1 (.slice a2 (r.length + l.length) c2) (r.length + l.length) (bl (r ++ l))) := hid (by
      have h9 := HA3.out.wr ((wr_refl W3 g).set 8 (.slice a2 (r.length + l.length) c2)) HOF2.out
      rw [← hX] at h9
      rw [bl, List.map_append]
      exact h9)
    rw [← hX]
    clear hX HB3 HW3 HA3 e8 e8f
    rw [← List.length_append] at HBX3 HAX3 HSH2 HOF2
    rw [← List.length_append]
    generalize r ++ l = q at *
    generalize hn : ((t.length : Int) + (l.length : Int)) = n at *
    go_loopw [] (fun wr => ∃ (j : Nat) (vj : Value), 64 * j ≤ q.length ∧ Wr w wr g ∧ Blk wr g 39 (hl (blocks j (state t) q) vj n true).toArray ∧ Arr wr 1 vj (q.length - 64 * j) (bl (q.drop (64 * j))) ∧ Shape vj ∧ offB vj g) (fun wr => lenAt wr g)
    case atStart => exact ⟨0, _, Nat.zero_le _, HWX3.out, HBX3.out, HAX3.out, HSH2.out, HOF2.out⟩
    case round =>
      obtain ⟨j, vj, hj, hWr, hB, hA, hS, hO⟩ := hrel
      have HAj := hid hA
      obtain ⟨_, x, cj, rfl, hcj, hmj, hxj⟩ := hA
      have c8 : wr.cell? ⟨g, 8, none⟩ = some (.slice x (q.length - 64 * j) cj) := hB.cell 8
      have f8 := hB.frozen 8
      have hgw := hB.lt
      by_cases h64 : 64 ≤ q.length - 64 * j
      · have hd : decide (64 ≤ ((q.length - 64 * j : Nat) : Int)) = true := decide_eq_true (by omega)
        obtain ⟨b, off, rfl, hb, _⟩ := hxj (by omega)
        have hne : b ≠ g := hO _ _ _ _ rfl (by omega)
        have ht := hB.there (o := 0) (n := 8) (by simp [hl])
        have ha : aggAt wr g 0 8 = sagg (blocks j (state t) q) := by
          unfold aggAt
          rw [hB.cells 0 8 (sl (blocks j (state t) q)) rfl rfl]
          rfl
        have hlt : ((q.drop (64 * j)).take 64).length = 64 := by simp; omega
        obtain ⟨e3, e1, e2⟩ := plain_j q.length j h64
        have e4 : (q.drop (64 * j)).length = q.length - 64 * j := by simp
        generalize hmq : q.length - 64 * j = m at *
        go_wp2_with (fail)
        have ht' : wr.drew.there g 0 8 := ht
        have ha' : aggAt wr.drew g 0 8 = sagg (blocks j (state t) q) := ha
        have hr64 := arr_head HAj.out (Nat.le_of_lt_succ (Nat.lt_succ_of_le h64))
        generalize hst' : blocks j (state t) q = sj at *
        have HR64 : Hid (Arr wr 1 (.slice (some ⟨b, off, none⟩) 64 cj) 64 (bl ((q.drop (64 * j)).take 64))) := hid (by rw [bl, List.map_take]; exact hr64)
        clear hr64
        have hc0 : (cj = 0) = False := by simp only [eq_iff_iff, iff_false]; omega
        have b1 : (64 : Int) ≤ (cj : Int) := by omega
        have b2 : (64 : Int) ≤ (m : Int) := by omega
        have b3 : (m : Int) ≤ (cj : Int) := by omega
        rcases Nat.lt_or_ge 64 cj with hc64 | hc64
        · have hcne : (cj = 64) = False := by simp only [eq_iff_iff, iff_false]; omega
          go_region_with (first | (go_at_call 31; refine (mixed31 sj _ ((q.drop (64 * j)).take 64) hlt _ ?_).later.mono ?_; (focus (exact HR64.out.later (by repeat (first | (with_reducible exact Later.refl _) | (with_reducible assumption) | with_reducible apply Later.latr | with_reducible apply Later.alloc | with_reducible apply Later.drew | (with_reducible refine Later.set ?_ (by (simp; try omega)) _))))); rintro e W2 ⟨rfl, hl2⟩; have hL2 : Later wr W2 := Later.trans (a := wr) (by repeat (first | (with_reducible exact Later.refl _) | (with_reducible assumption) | with_reducible apply Later.latr | with_reducible apply Later.alloc | with_reducible apply Later.drew | (with_reducible refine Later.set ?_ (by (simp; try omega)) _))) hl2; have ht2 := (hB.later hL2).there (o := 0) (n := 8) (by simp [hl]); have f2 := (hB.later hL2).frozen 8; have c2 : W2.cell? ⟨g, 8, none⟩ = some (.slice (some ⟨b, off, none⟩) m cj) := (hB.later hL2).cell 8))
          all_goals
            go_wp2_with (fail)
            go_roundw
            case rel =>
              refine ⟨j + 1, _, e3, (wr_sets (hWr.later hL2) _ _).set 8 _, ((blk_sl (mix sj ((q.drop (64 * j)).take 64)) (hB.later hL2)).set_ 8 _).cast (by rw [blocks_snoc, hst']; rfl), ?_, .inr ⟨_, _, _, rfl⟩, fun _ _ _ _ hv _ => by injection hv with hv; injection hv with hv; injection hv with hv; subst hv; exact hne⟩
              have hw8 := (wr_sets (wr_refl W2 g) (sl (mix sj ((q.drop (64 * j)).take 64))) 0).set 8 (.slice (some ⟨b, off + 64, none⟩) (m - 64) (cj - 64))
              rw [show q.length - 64 * (j + 1) = m - 64 by omega, show 64 * (j + 1) = 64 * j + 64 by omega, ← List.drop_drop]
              exact ((by rw [bl, List.map_drop]; exact arr_tail HAj.out h64 : Arr wr 1 (.slice (some ⟨b, off + 64, none⟩) (m - 64) (cj - 64)) (m - 64) (bl ((q.drop (64 * j)).drop 64))).later hL2).wr hw8 (fun _ _ _ _ hv _ => by injection hv with hv; injection hv with hv; injection hv with hv; subst hv; exact hne)
            case measure =>
              rw [lenAt_of c8, lenAt_of (show ((W2.setCells g 0 (sl (mix sj ((q.drop (64 * j)).take 64)))).setCell ⟨g, 8, none⟩ (.slice (some ⟨b, off + 64, none⟩) (m - 64) (cj - 64))).cell? ⟨g, 8, none⟩ = some (.slice (some ⟨b, off + 64, none⟩) (m - 64) (cj - 64)) from by rw [((blk_sl (mix sj ((q.drop (64 * j)).take 64)) (hB.later hL2)).set_ 8 _).cell 8]; rfl)]
              exact e2
        · obtain rfl : cj = 64 := by omega
          obtain rfl : m = 64 := by omega
          go_region_with (first | (go_at_call 31; refine (mixed31 sj _ ((q.drop (64 * j)).take 64) hlt _ ?_).later.mono ?_; (focus (exact HR64.out.later (by repeat (first | (with_reducible exact Later.refl _) | (with_reducible assumption) | with_reducible apply Later.latr | with_reducible apply Later.alloc | with_reducible apply Later.drew | (with_reducible refine Later.set ?_ (by (simp; try omega)) _))))); rintro e W2 ⟨rfl, hl2⟩; have hL2 : Later wr W2 := Later.trans (a := wr) (by repeat (first | (with_reducible exact Later.refl _) | (with_reducible assumption) | with_reducible apply Later.latr | with_reducible apply Later.alloc | with_reducible apply Later.drew | (with_reducible refine Later.set ?_ (by (simp; try omega)) _))) hl2; have ht2 := (hB.later hL2).there (o := 0) (n := 8) (by simp [hl]); have f2 := (hB.later hL2).frozen 8; have c2 : W2.cell? ⟨g, 8, none⟩ = some (.slice (some ⟨b, off, none⟩) 64 64) := (hB.later hL2).cell 8))
          all_goals
            go_wp2_with (fail)
            go_roundw
            case rel =>
              refine ⟨j + 1, _, e3, (wr_sets (hWr.later hL2) _ _).set 8 _, ((blk_sl (mix sj ((q.drop (64 * j)).take 64)) (hB.later hL2)).set_ 8 _).cast (by rw [blocks_snoc, hst']; rfl), ?_, .inr ⟨_, _, _, rfl⟩, fun _ _ _ _ hv _ => by injection hv with hv; injection hv with hv; injection hv with hv; subst hv; exact hne⟩
              have hw8 := (wr_sets (wr_refl W2 g) (sl (mix sj ((q.drop (64 * j)).take 64))) 0).set 8 (.slice (some ⟨b, off, none⟩) 0 0)
              rw [show q.length - 64 * (j + 1) = 0 by omega, show 64 * (j + 1) = 64 * j + 64 by omega, ← List.drop_drop]
              exact by rw [List.drop_eq_nil_of_le (Nat.le_of_eq e4)]; exact arr_zero _ _ (Nat.zero_le _)
            case measure =>
              rw [lenAt_of c8, lenAt_of (show ((W2.setCells g 0 (sl (mix sj ((q.drop (64 * j)).take 64)))).setCell ⟨g, 8, none⟩ (.slice (some ⟨b, off, none⟩) 0 0)).cell? ⟨g, 8, none⟩ = some (.slice (some ⟨b, off, none⟩) 0 0) from by rw [((blk_sl (mix sj ((q.drop (64 * j)).take 64)) (hB.later hL2)).set_ 8 _).cell 8]; rfl)]
              exact e2
      · have hd : decide (64 ≤ ((q.length - 64 * j : Nat) : Int)) = false := decide_eq_false (by omega)
        go_wp2_with (fail)
        refine bodyPost_end (v := .tuple #[]) ?_ rfl ?_
        · simp [results, Try.results19]
        obtain ⟨hq1, hq2⟩ := hq.out
        have hjq : j = q.length / 64 := by omega
        subst hjq
        refine ⟨rfl, hWr, blocks (q.length / 64) (state t) q, _, left q, true, ?_, ?_, hS, hO, .inl ⟨rfl, hq2.symm, hq1.symm⟩⟩
        · rw [List.length_append, Int.natCast_add, hn]
          exact hB
        · have e : (left q).length = q.length - 64 * (q.length / 64) := left_len' q
          rw [e]
          exact HAj.out
end Go.Proofs.Ytnidpncacgknkaa
