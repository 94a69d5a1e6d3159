/- The walk of MacEqual: it answers true. Of any key, text, place and byte. -/
import Derived.Test.YtnidpncacgknkaaMawake
import Derived.Test.YtnidpncacgknkaaRlaw
namespace Go.Proofs.Ytnidpncacgknkaa
open Go.RowKit
attribute [local go_sem] ite_max ite_min
attribute [local go_sem ↓] Go.wp_at_zero Go.wp_at_succ ld26
attribute [local go_sem] h_lt1 h_lt2 h_lt3 h_lt4 h_lt5 h_lt6 h_eq1 h_qe1 h_eq2 h_qe2 h_eq3 h_qe3 h_eq4 h_qe4 h_eq5 h_qe5 h_eq6 h_qe6
theorem same_set (a : List B8) (i : Nat) (x : B8) (hi : i < a.length) : same a (a.set i (a.getD i 0 ^^^ x)) = (bn x == 0) := by
  have h := set_same a i x hi
  by_cases hx : x = 0#8
  · subst hx
    rw [same, decide_eq_true (h.2 rfl)]
    rfl
  · rw [same, decide_eq_false (fun e => hx (h.1 e))]
    symm
    rw [beq_eq_false_iff_ne]
    exact fun e => hx (bn_inj (b := 0#8) e)
theorem wpQuiet_load {P : Program} {ops : Array Oper} {C : World → Prop} {Q : Act → Prop} {dst : Option Tmp} {x : Operand} {T ty : TypeId} {pos : String} {after : Array Edge} {guard : Option (Nat × Bool)} {rest : List Oper} {a : Act} (b i : Nat) (v : Value)
    (hx : a.eval x = .pointer (some ⟨b, i, none⟩)) (hl : ∀ w, C w → (Instr.loadAt T (.pointer (some ⟨b, i, none⟩))).run P w = .ok v w)
    (hw : Region.wanted { dst := dst, op := .load T x, type := ty, pos := pos, after := after, guard := guard } (yielded ops a.tmps) = true) (h : wpQuiet P ops C Q rest (a.put dst v)) :
    wpQuiet P ops C Q ({ dst := dst, op := .load T x, type := ty, pos := pos, after := after, guard := guard } :: rest) a :=
  wpQuiet_step fun K hK => by
    rw [if_pos hw]
    exact ⟨v, fun w hC => by
      unfold Oper.quietAt
      simp [execOp, hx, hl w hC, Oper.quietUpon], hK _ h⟩
theorem wp_region_calm_far {P : Program} {id : Nat} {Q : Exit → Act → World → Prop} {a : Act} {w : World} {l : List Oper} (hm : P.follows .mixedOrders = true) (hB : Region.lexB .any l.toArray = true)
    (h : ∀ R : Act → Prop, (∀ a', (∀ w', (∃ x, w' = latr w x) → Q .normal a' w') → R a') → wpQuiet P l.toArray (fun w' => ∃ x, w' = latr w x) R l a) : (Code.region id l.toArray true).wp P Q a w :=
  wp_region_calm hm hB (h _ fun _ h => h)
theorem same_comm (a b : List B8) : same a b = same b a := by
  unfold same
  by_cases h : a = b
  · subst h; rfl
  · rw [decide_eq_false h, decide_eq_false (fun e => h e.symm)]
set_option maxRecDepth 100000 in
set_option maxHeartbeats 8000000 in
theorem macEqual4 (kv : Value) (key : List B8) (tv : Value) (text : List B8) (at_ by_ : B8) (w : World) (hk : Arr w 1 kv key.length (bl key)) (hks : Shape kv) (ht : Arr w 1 tv text.length (bl text)) (hts : Shape tv) :
    Gives Try.prog 4 #[kv, tv, bb at_, bb by_] w (.bool true) := by
  apply gives_of
  have HK := hid hk
  have HT := hid ht
  obtain ⟨_, ka, kcap, rfl, _⟩ := hk
  obtain ⟨_, ta, tcap, rfl, _⟩ := ht
  by_cases hk3 : 300 < key.length
  · have d1 : decide (300 < (key.length : Int)) = true := decide_eq_true (by omega)
    (go_enter Try.func4, Try.ntmps4; go_wp2_with (fail))
    (refine (awake11 _).mono ?_; rintro e w1 ⟨rfl, x1, rfl⟩; go_wp2_with (fail))
    go_ret
    exact ⟨rfl, by repeat (first | (with_reducible exact Later.refl _) | with_reducible apply Later.latr | with_reducible apply Later.alloc | with_reducible apply Later.drew | (with_reducible refine Later.set ?_ (by (simp; try omega)) _))⟩
  have d1 : decide (300 < (key.length : Int)) = false := decide_eq_false (by omega)
  by_cases ht3 : 300 < text.length
  · have d2 : decide (300 < (text.length : Int)) = true := decide_eq_true (by omega)
    (go_enter Try.func4, Try.ntmps4; go_wp2_with (fail))
    (refine (awake11 _).mono ?_; rintro e w1 ⟨rfl, x1, rfl⟩; go_wp2_with (fail))
    go_ret
    exact ⟨rfl, by repeat (first | (with_reducible exact Later.refl _) | with_reducible apply Later.latr | with_reducible apply Later.alloc | with_reducible apply Later.drew | (with_reducible refine Later.set ?_ (by (simp; try omega)) _))⟩
  have d2 : decide (300 < (text.length : Int)) = false := decide_eq_false (by omega)
  (go_enter Try.func4, Try.ntmps4; go_wp2_with (fail))
  refine (awake11 _).later.mono ?_
  rintro e W0 ⟨rfl, hl0⟩
  have HL0 := hid hl0
  have aT := HT.out.later hl0
  have aK := HK.out.later hl0
  clear hl0
  go_wp2_with (fail)
  have hG : (hmac key [text].flatten).take 16 = (hmac key text).take 16 := by rw [show [text].flatten = text by simp]
  refine (tag13 _ key _ [text] _ (aK.alloc _) hks (texts1 (arr_new (xs := [_]) (n := 1) (size := 1) rfl rfl (by decide)) (aT.alloc _) hts) (by omega) (by simp; omega)).later.mono ?_
  rw [hG]
  have ltg : ((hmac key text).take 16).length = 16 := by rw [List.length_take, hmac_len]; rfl
  generalize (hmac key text).take 16 = tg at *
  rintro e W1 ⟨rfl, hl1⟩
  have HL1 := hid (Later.trans (a := w) (by repeat (first | (with_reducible exact Later.refl _) | (with_reducible exact HL0.out) | with_reducible apply Later.latr | with_reducible apply Later.alloc | with_reducible apply Later.drew | (with_reducible refine Later.set ?_ (by (simp; try omega)) _))) hl1)
  have ht1 := (Blk.new W1 26 z26).thereN 16 z26_size
  clear hl1 aT aK hG
  (try simp only [])
  (iterate 8 go_step)
  obtain ⟨U1, hU1⟩ : ∃ U, U = (W1.alloc (.cells z26 26)).setCells W1.heap.size 0 (bl tg) := ⟨_, rfl⟩
  have HB1 : Hid (Blk U1 W1.heap.size 26 (bl tg).toArray) := hid (by rw [hU1]; exact set26 _ ltg (Blk.new W1 26 _) z26_size)
  have HLU1 : Hid (Later w U1) := hid (by rw [hU1]; exact later_sets (HL1.out.alloc _) HL1.out.size _ _)
  rw [← hU1]
  clear hU1 HL1 ht1
  generalize W1.heap.size = b1 at *
  have T1 := HB1.out.there0 16 ((bl_len _).trans ltg)
  have A1 := HB1.out.agg 16 ((bl_len _).trans ltg)
  change _ = bagg tg at A1
  have ht2 := (Blk.new U1 26 z26).thereN 16 z26_size
  (try simp only [])
  (iterate 12 go_step)
  obtain ⟨U2, hU2⟩ : ∃ U, U = (U1.alloc (.cells z26 26)).setCells U1.heap.size 0 (bl tg) := ⟨_, rfl⟩
  have HB2 : Hid (Blk U2 U1.heap.size 26 (bl tg).toArray) := hid (by rw [hU2]; exact set26 _ ltg (Blk.new U1 26 _) z26_size)
  have hlu2 : Later U1 U2 := by rw [hU2]; exact later_sets (by repeat (first | (with_reducible exact Later.refl _) | with_reducible apply Later.latr | with_reducible apply Later.alloc | with_reducible apply Later.drew | (with_reducible refine Later.set ?_ (by (simp; try omega)) _))) (Nat.le_refl _) _ _
  have hb12 : b1 < U1.heap.size := HB1.out.lt
  replace HB1 := hid (HB1.out.later hlu2)
  have HLU2 := hid (HLU1.out.trans hlu2)
  have hwb : w.heap.size ≤ U1.heap.size := HLU1.out.size
  rw [← hU2]
  clear hU2 hlu2 ht2 T1 A1 HLU1
  generalize U1.heap.size = b2 at *
  obtain ⟨i, hi, hi16⟩ : ∃ i : Nat, bn at_ % (16 : Int) = (i : Int) ∧ i < 16 := ⟨at_.toNat % 16, by unfold bn; omega, by omega⟩
  have hi2 : Int.tmod (bn at_) 16 = (i : Int) := by rw [Int.tmod_eq_emod_of_nonneg (bn_range at_).1]; exact hi
  have s1 : (i : Int) < 16 := by omega
  have c0 : U2.cell? ⟨b2, i, none⟩ = some (bb (tg.getD i 0)) := by
    rw [HB2.out.cell]
    have : i < tg.length := by omega
    simp [bl, this]
  have f0 := HB2.out.frozen i
  have hbu2 := HB2.out.lt
  have hsame := hid (same_set tg i by_ (by omega))
  have hlen2 : (tg.set i (tg.getD i 0 ^^^ by_)).length = 16 := by simp [ltg]
  have hset := hid (show (bl tg).toArray.setIfInBounds i (bb (tg.getD i 0 ^^^ by_)) = (bl (tg.set i (tg.getD i 0 ^^^ by_))).toArray by simp [bl, List.map_set])
  generalize tg.getD i 0 = y at *
  go_wp2_with (fail)
  obtain ⟨U3, hU3⟩ : ∃ U, U = U2.setCell ⟨b2, i, none⟩ (bb (y ^^^ by_)) := ⟨_, rfl⟩
  have HB23 : Hid (Blk U3 b2 26 (bl (tg.set i (y ^^^ by_))).toArray) := hid (by rw [hU3]; exact (HB2.out.set_ i _).cast hset.out)
  have HB13 : Hid (Blk U3 b1 26 (bl tg).toArray) := hid (by rw [hU3]; exact HB1.out.far (p := ⟨b2, i, none⟩) (by simp; omega) _)
  have HLU3 : Hid (Later w U3) := hid (by rw [hU3]; exact HLU2.out.set (p := ⟨b2, i, none⟩) hwb _)
  rw [← hU3]
  clear hU3 HB1 HB2 HLU2 c0 f0 hset
  have hs2 := same_comm (tg.set i (y ^^^ by_)) tg
  rw [hsame.out] at hs2
  have hs1 := hsame.out
  clear hsame hi hi2 s1
  generalize tg.set i (y ^^^ by_) = th at *
  have T1 : ∀ x : Lat U3, (latr U3 x).there b1 0 16 := fun x => (HB13.out.latr x).there0 16 ((bl_len _).trans ltg)
  have T2 : ∀ x : Lat U3, (latr U3 x).there b2 0 16 := fun x => (HB23.out.latr x).there0 16 ((bl_len _).trans hlen2)
  have A1 : ∀ x : Lat U3, aggAt (latr U3 x) b1 0 16 = bagg tg := fun x => (HB13.out.latr x).agg 16 ((bl_len _).trans ltg)
  have A2 : ∀ x : Lat U3, aggAt (latr U3 x) b2 0 16 = bagg th := fun x => (HB23.out.latr x).agg 16 ((bl_len _).trans hlen2)
  refine wp_region_calm_far (by kernel_rfl) (by kernel_rfl) ?_
  intro R hR
  (repeat (first
    | go_big_quiet_step ((go_at_call 15; first | exact calm_of (equal15 tg tg _ ltg ltg) | exact calm_of (equal15 tg th _ ltg hlen2) | exact calm_of (equal15 th tg _ hlen2 ltg)))
    | (refine wpQuiet_load b1 0 (bagg tg) rfl (by rintro _ ⟨x, rfl⟩; exact (ld26 b1 0 (T1 x)).trans (by rw [A1 x])) (by kernel_rfl) ?_; go_simp)
    | (refine wpQuiet_load b2 0 (bagg th) rfl (by rintro _ ⟨x, rfl⟩; exact (ld26 b2 0 (T2 x)).trans (by rw [A2 x])) (by kernel_rfl) ?_; go_simp)))
  refine wpQuiet_nil (hR _ ?_)
  clear hR R
  rintro _ ⟨x, rfl⟩
  go_wp2_with (fail)
  go_ret
  exact ⟨rfl, HLU3.out.latr _⟩
end Go.Proofs.Ytnidpncacgknkaa
