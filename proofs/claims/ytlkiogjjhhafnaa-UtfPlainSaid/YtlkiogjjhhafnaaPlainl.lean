/- The walk of UtfPlain: it answers true. Of arguments of their types. -/
import Derived.Test.YtlkiogjjhhafnaaAwake
namespace Go.Proofs.Ytlkiogjjhhafnaa
open Go.RowKit
attribute [local go_sem] ite_max ite_min
attribute [local go_sem] h_lt1 h_lt2 h_lt3 h_lt4 h_lt5 h_lt6 h_eq1 h_qe1 h_eq2 h_qe2 h_eq3 h_qe3 h_eq4 h_qe4 h_eq5 h_qe5 h_eq6 h_qe6

theorem or_wrong (b : Int) (h0 : 0 ≤ b) (h1 : b < 256) : bits .or .u8 (b % 64) 128 = 128 + b % 64 := by
  obtain ⟨n, rfl⟩ := Int.eq_ofNat_of_zero_le h0
  have : ∀ m : Fin 256, bits .or .u8 (((m.val : Nat) : Int) % 64) 128 = 128 + ((m.val : Nat) : Int) % 64 := by decide +kernel
  exact this ⟨n, by omega⟩
def pl (c : Int) (l : List Int) : List Int := l.flatMap fun x => [x % 128, c]
theorem pl_snoc (c : Int) (l : List Int) (x : Int) : pl c (l ++ [x]) = pl c l ++ [x % 128, c] := by simp [pl]
theorem pl_len (c : Int) (l : List Int) : (pl c l).length = 2 * l.length := by
  induction l with
  | nil => rfl
  | cons x l ih => simp only [pl, List.flatMap_cons, List.length_append, List.length_cons, List.length_nil] at ih ⊢; omega
theorem pl_range (c : Int) (hc : 0 ≤ c ∧ c < 256) (l : List Int) : ∀ x ∈ pl c l, 0 ≤ x ∧ x < 256 := by
  intro x hx
  obtain ⟨y, _, hy⟩ := List.mem_flatMap.1 hx
  simp at hy
  omega

set_option maxRecDepth 100000 in
set_option maxHeartbeats 16000000 in
theorem plain6 (v : Value) (l : List Int) (b : Int) (h0 : 0 ≤ b) (h1 : b < 256) (w : World) (hr : ∀ x ∈ l, 0 ≤ x ∧ x < 256) (hv : Arr w 1 v l.length (l.map bv)) :
    Calls Try.prog 6 #[v, .int .u8 b] w fun e w' => e = .returned (.bool true) ∧ Later w w' := by
  obtain ⟨i0, hi0, hz0, hz1, hz2⟩ := info_parts info5
  obtain ⟨j0, hj0, hy0, hy1, hy2⟩ := info_parts info3
  have hor := or_wrong b h0 h1
  have hc : 0 ≤ 128 + b % 64 ∧ 128 + b % 64 < 256 := by omega
  have hpr := pl_range (128 + b % 64) hc l
  have hpn := plain_runes (128 + b % 64) (by omega) l hr
  by_cases h300 : 300 < l.length
  · have hd : decide (300 < (l.length : Int)) = true := decide_eq_true (by omega)
    obtain ⟨_, a, cap, rfl, _⟩ := hv
    (go_enter Try.func6, Try.ntmps6; go_wp2_with (fail))
    (refine (awake7 _).mono ?_; rintro e w1 ⟨rfl, x1, rfl⟩; go_wp2_with (fail))
    go_ret
    exact ⟨rfl, by repeat (first | (with_reducible exact Later.refl _) | with_reducible apply Later.latr | with_reducible apply Later.alloc | with_reducible apply Later.drew | (with_reducible refine Later.set ?_ (by (simp; try omega)) _))⟩
  have hd : decide (300 < (l.length : Int)) = false := decide_eq_false (by omega)
  have HR := hid hr
  clear hr
  obtain ⟨_, a, cap, rfl, hcap, hmax, hx⟩ := hv
  have HX := hid hx
  clear hx
  have h63 : bits .and .u8 b 63 = b % 64 := by
    obtain ⟨n, rfl⟩ := Int.eq_ofNat_of_zero_le h0
    have : ∀ m : Fin 256, bits .and .u8 ((m.val : Nat) : Int) 63 = ((m.val : Nat) : Int) % 64 := by decide +kernel
    exact this ⟨n, by omega⟩
  generalize hC : 128 + b % 64 = c at *
  (go_enter Try.func6, Try.ntmps6; go_wp2_with (fail))
  (refine (awake7 _).mono ?_; rintro e w1 ⟨rfl, x1, rfl⟩; go_wp2_with (fail))
  go_loopw [6, 7, 9] (fun p q i wr => ∃ k : Nat, k ≤ l.length ∧ i = .int .i64 k ∧ Later w wr ∧ wr.ownsRow w.heap.size 5 1 p (2 * k) ((pl c (l.take k)).map bv) ∧ wr.ownsRow w.heap.size 3 1 q (2 * k) ((pl 65533 (l.take k)).map iv)) (fun _ _ i _ => l.length - (intOf i).toNat)
  case atStart => exact ⟨0, Nat.zero_le _, rfl, by repeat (first | (with_reducible exact Later.refl _) | with_reducible apply Later.latr | with_reducible apply Later.alloc | with_reducible apply Later.drew | (with_reducible refine Later.set ?_ (by (simp; try omega)) _)), World.ownsRow_nil _ _ _ _, World.ownsRow_nil _ _ _ _⟩
  case round =>
    obtain ⟨k, hk, rfl, hl, hO, hP⟩ := hrel
    have HL := hid hl
    have HO := hid hO
    have HP := hid hP
    by_cases hlt : k < l.length
    · obtain ⟨b2, off, rfl, hb2, hcell⟩ := HX.out (by omega)
      have c0 : wr.cell? ⟨b2, off + k, none⟩ = some (bv l[k]) := (hl.cell hb2).trans (hcell k _ (by simp [hlt]))
      have hbw : b2 < wr.heap.size := Nat.lt_of_lt_of_le hb2 hl.size
      obtain ⟨q0, q1⟩ := HR.out l[k] (List.getElem_mem hlt)
      have hs1 := pl_snoc c (l.take k) l[k]
      have hs2 := pl_snoc 65533 (l.take k) l[k]
      rw [← take_succ_ l k hlt] at hs1 hs2
      generalize l[k] = x at *
      have h127 : bits .and .u8 x 127 = x % 128 := by
        obtain ⟨n, rfl⟩ := Int.eq_ofNat_of_zero_le q0
        have : ∀ m : Fin 256, bits .and .u8 ((m.val : Nat) : Int) 127 = ((m.val : Nat) : Int) % 128 := by decide +kernel
        exact this ⟨n, by omega⟩
      have HS1 := hid hs1
      have HS2 := hid hs2
      have hls := hid hl.size
      clear hs1 hs2 hl hO hP hcell
      generalize pl c (l.take k) = r1 at *
      generalize pl 65533 (l.take k) = r2 at *
      go_wp2_with (first
        | (at_builtin
           (refine append_new rfl (.tmp 26) (.tmp 33) 29 rfl w.heap.size 5 i0 _ 1 1 Try.underlying29 hi0 hz0 hz1 hz2 rfl (by decide) _ 5 _ (2 * k) _ rfl HO.out _ 2 [_, _] rfl rfl rfl (by simp [Value.oneCell']) (by unfold maxLen; omega) (by omega) hls.out ?_)
           intro v1 W1 hO1 hg1
           have hl1 := Later.grown HL.out hg1 (own_lt HO.out (Nat.le_refl _))
           have hP1 := HP.out.kept hg1 (own_ne HP.out HO.out (by decide))
           have c1 : W1.cell? ⟨b2, off + k, none⟩ = some (bv x) := (hl1.cell hb2).trans ((HL.out.cell hb2).symm.trans c0)
           have hb1 : b2 < W1.heap.size := Nat.lt_of_lt_of_le hb2 hl1.size
           have H1 := hid (And.intro hO1 (And.intro hl1.size (And.intro hl1 hP1)))
           clear hO1 hg1 hl1 hP1)
        | (at_builtin
           (refine append_new rfl (.tmp 35) (.tmp 42) 24 rfl w.heap.size 3 j0 _ 1 8 Try.underlying24 hj0 hy0 hy1 hy2 rfl (by decide) _ 3 _ (2 * k) _ rfl H1.out.2.2.2 _ 2 [_, _] rfl rfl rfl (by simp [Value.oneCell']) (by unfold maxLen; omega) (by omega) H1.out.2.1 ?_)
           intro v2 W2 hO2 hg2))
      go_roundw
      case rel =>
        refine ⟨k + 1, by omega, by go_num, Later.grown H1.out.2.2.1 hg2 (own_lt H1.out.2.2.2 (Nat.le_refl _)), ?_, ?_⟩
        · rw [HS1.out, List.map_append, Nat.mul_add]
          have := H1.out.1.kept hg2 (own_ne H1.out.1 H1.out.2.2.2 (by decide))
          exact this
        · rw [HS2.out, List.map_append, Nat.mul_add]
          exact hO2
      case measure => simp [intOf]; omega
    · obtain rfl : k = l.length := by omega
      rw [List.take_length] at hO hP
      have hA := Arr.of_own hO
      have hQ := Arr.of_own hP
      rw [← pl_len c l] at hA
      rw [← pl_len 65533 l] at hQ
      have HA := hid hA
      have HQ := hid hQ
      have hplen := pl_len c l
      have hrun := fun W v' (h : Arr W 1 v' (pl c l).length ((pl c l).map bv)) => runes13 .zero v' (pl c l) W hpr (by omega) h
      rw [show runesU .zero (pl c l) = (pl 65533 l, .zero) from hpn] at hrun
      clear hl hO hP hA hQ
      go_wp2_with (fail)
      refine (hrun _ _ HA.out).mono ?_
      rintro e W1 ⟨v1, rfl, hl1, hO1⟩
      have HL1 := hid (HL.out.trans hl1)
      have HA1 := hid (Arr.of_own hO1)
      have HQ1 := hid (HQ.out.later hl1)
      clear hl1 hO1 HL HA HQ
      go_wp2_with (fail)
      refine (same_true v1 _ (pl 65533 l) _ (HA1.out.alloc _) (HQ1.out.alloc _)).later.mono ?_
      rintro e W2 ⟨rfl, hl2⟩
      have HL2 := hid (Later.trans (a := w) (by repeat (first | (with_reducible exact Later.refl _) | (with_reducible exact HL1.out) | with_reducible apply Later.latr | with_reducible apply Later.alloc | with_reducible apply Later.drew | (with_reducible refine Later.set ?_ (by (simp; try omega)) _))) hl2)
      have HB := hid ((Blk.new W1 23 #[.int .i64 0, .int .i64 0, .int .i64 0]).later hl2)
      (obtain ⟨hcb0, hcb1, hcb2, hfb0, hfb1, hfb2, hgb⟩ := Blk.at3 (HB.out))
      go_wp2_with (fail)
      go_ret
      exact ⟨rfl, HL2.out⟩
end Go.Proofs.Ytlkiogjjhhafnaa
