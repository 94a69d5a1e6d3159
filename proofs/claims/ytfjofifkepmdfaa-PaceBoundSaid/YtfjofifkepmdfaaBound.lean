/- PaceBound: its walk, which answers true. Of arguments of their types. -/
import Derived.Test.YtfjofifkepmdfaaAwake
import Derived.Test.YtfjofifkepmdfaaLaw
import Derived.Test.YtfjofifkepmdfaaSame
namespace Go.Proofs.Ytfjofifkepmdfaa
open Go.RowKit

theorem info31 : (Try.prog.info? 31).map (fun i => (i.zero, i.size, i.bytes)) = some (some (.agg #[.int .i64 0, .int .i64 0]), 2, 16) := by kernel_rfl

/-- the cells of pairs of uint16 -/
def pairsU (ps : List (Int × Int)) : List Value := ps.flatMap fun p => [.int .u16 p.1, .int .u16 p.2]
theorem pairsU_at (ps : List (Int × Int)) : ∀ (k : Nat) (h : k < ps.length), (pairsU ps)[k * 2]? = some (.int .u16 ps[k].1) ∧ (pairsU ps)[k * 2 + 1]? = some (.int .u16 ps[k].2) := by
  induction ps with
  | nil => intro k h; simp at h
  | cons a l ih =>
    intro k h
    cases k with
    | zero => exact ⟨rfl, rfl⟩
    | succ k =>
      have := ih k (by simpa using h)
      rw [show (k + 1) * 2 = k * 2 + 1 + 1 by omega]
      exact this

set_option maxHeartbeats 8000000 in
theorem bound4 (v : Value) (r n : Int) (zs : List (Int × Int)) (w : World) (hv : Arr w 2 v zs.length (pairsU zs)) (hz : ∀ x ∈ zs, (0 ≤ x.1 ∧ x.1 ≤ 65535) ∧ 0 ≤ x.2 ∧ x.2 ≤ 65535)
    (hr0 : 0 ≤ r) (hr1 : r ≤ 65535) (hn0 : 0 ≤ n) (hn1 : n ≤ 65535) :
    Calls Try.prog 4 #[.int .u16 r, .int .u16 n, v] w fun e w' => e = .returned (.bool true) ∧ Later w w' := by
  obtain ⟨i0, hi0, hz0, hz1, hz2⟩ := info_parts info31
  have hHZ := hid hz
  clear hz
  have e1 : IntKind.i64.wrap (r + 1) = r + 1 := IntWalk.i64_in _ (by omega)
  have e2 : IntKind.i64.wrap (n + 1) = n + 1 := IntWalk.i64_in _ (by omega)
  by_cases h60 : zs.length ≤ 60
  case neg =>
    rcases arr_cases hv with ⟨a, cap, rfl, h0, _, hmax⟩ | ⟨b, off, cap, rfl, hpos, hlen, hb, hcap, hmax, hcell⟩
    · omega
    clear hcell
    have hd : decide (60 < (zs.length : Int)) = true := decide_eq_true (by omega)
    go_enter Try.func4, Try.ntmps4
    go_wp2_with (fail)
    refine (awake7 _).mono ?_
    rintro e w1 ⟨rfl, x1, rfl⟩
    go_wp2_with (fail)
    go_ret
    exact ⟨rfl, by repeat (first | (with_reducible exact Later.refl _) | with_reducible apply Later.latr | with_reducible apply Later.alloc | with_reducible apply Later.drew)⟩
  have hd : decide (60 < (zs.length : Int)) = false := decide_eq_false (by omega)
  rcases arr_cases hv with ⟨a, cap, rfl, h0, _, hmax⟩ | ⟨b, off, cap, rfl, hpos, hlen, hb, hcap, hmax, hcell⟩
  · obtain rfl : zs = [] := List.eq_nil_of_length_eq_zero h0
    clear hv
    go_enter Try.func4, Try.ntmps4
    go_wp2_with (fail)
    refine (awake7 _).mono ?_
    rintro e w1 ⟨rfl, x1, rfl⟩
    go_wp2_with (fail)
    refine wp_loop_rounds 1 ?_
    rw [rounds_succ]
    go_wp2_with (fail)
    refine (sends8 _ (r + 1) (n + 1) [] _ (Arr.nil _ _) (by simp)).mono ?_
    rintro e w2 ⟨v', rfl, hl2, hx⟩
    obtain ⟨_, a2, cap2, rfl, _, hmax2, _⟩ := hx
    have hw := hid (((Later.refl w).latr x1).trans hl2)
    go_wp2_with (fail)
    go_rounds 1
    go_ret
    exact ⟨rfl, hw.out⟩
  have HC := hid hcell
  clear hcell hv
  go_enter Try.func4, Try.ntmps4
  go_wp2_with (fail)
  refine (awake7 _).mono ?_
  rintro e w1 ⟨rfl, x1, rfl⟩
  go_wp2_with (fail)
  go_loopw [8, 9, 10] (fun out t i wr => ∃ k : Nat, k ≤ zs.length ∧ i = .int .i64 k ∧ t = .int .i64 (tend (zs.take k) 0) ∧ Later w wr ∧ wr.ownsRow w.heap.size 31 2 out k (pairs (times (zs.take k) 0))) (fun _ _ i _ => zs.length - (intOf i).toNat)
  case atStart => exact ⟨0, Nat.zero_le _, rfl, rfl, (Later.refl _).latr _, World.ownsRow_nil _ _ _ _⟩
  case round =>
    obtain ⟨k, hk, rfl, rfl, hl, hown⟩ := hrel
    by_cases hlt : k < zs.length
    · have hat := pairsU_at zs k hlt
      have c0 : wr.cell? ⟨b, off + k * 2, none⟩ = some (.int .u16 zs[k].1) := (hl.cell hb).trans (HC.out _ _ hat.1)
      have c1 : wr.cell? ⟨b, off + k * 2 + 1, none⟩ = some (.int .u16 zs[k].2) := (hl.cell hb).trans (HC.out _ _ hat.2)
      clear hat
      have hbw : b < wr.heap.size := Nat.lt_of_lt_of_le hb hl.size
      have htb := tend_bd (zs.take k) 0
      rw [List.length_take] at htb
      obtain ⟨⟨q0, q1⟩, q2, q3⟩ := hHZ.out zs[k] (List.getElem_mem hlt)
      have htn := tend_snoc (zs.take k) zs[k] 0
      have hsn := times_snoc (zs.take k) zs[k] 0
      rw [← take_succ_ zs k hlt] at htn hsn
      generalize hT : tend (zs.take k) 0 = T at *
      clear hT
      generalize times (zs.take k) 0 = ts at *
      generalize zs[k] = x at *
      have HTN := hid htn
      have HSN := hid hsn
      clear htn hsn
      have t0 : x.1.tmod 50 = x.1 % 50 := Int.tmod_eq_emod_of_nonneg q0
      have t1 : IntKind.i64.wrap (x.1 % 50) = x.1 % 50 := IntWalk.i64_in _ (by omega)
      have t2 : IntKind.i64.wrap (T + x.1 % 50) = T + x.1 % 50 := IntWalk.i64_in _ (by omega)
      have hle := hid hl.size
      go_wp2_with (first
        | (at_builtin
           go_must (refine append_new rfl (.tmp 37) (.tmp 46) 22 rfl w.heap.size 31 i0 _ 2 16 Try.underlying22 hi0 hz0 hz1 hz2 rfl (by decide) _ 31 _ k _ rfl hown _ 1 [_, _] rfl rfl rfl (by simp [Value.oneCell']) (by unfold maxLen; omega) (by omega) hle.out ?_)
           intro v1 w2 hown1 hg1))
      go_roundw
      case rel =>
        refine ⟨k + 1, by omega, by go_num, by rw [HTN.out], hl.grown hg1 (own_lt hown (Nat.le_refl _)), ?_⟩
        rw [HSN.out, pairs_snoc]
        exact hown1
      case measure => simp [intOf]; omega
    · obtain rfl : k = zs.length := by omega
      rw [List.take_length] at hown
      have hfit := times_fit zs 0 (by omega) (by omega) (fun x hx => (hHZ.out x hx).2)
      have hln := times_len zs 0
      generalize tend (zs.take zs.length) 0 = T at *
      generalize times zs 0 = ps at *
      have ha := Arr.of_own hown
      clear hown
      have hHF := hid hfit
      clear hfit
      have hA := hid ha
      rcases arr_cases ha with ⟨a3, cap3, rfl, h03, _, hmax3⟩ | ⟨b3, off3, cap3, rfl, hpos3, hlen3, hb3, hcap3, hmax3, hcell3⟩
      · omega
      have HC3 := hid hcell3
      clear hcell3 ha
      go_wp2_with (fail)
      refine (sends8 _ (r + 1) (n + 1) ps _ (by rw [hln]; exact hA.out) (by omega)).mono ?_
      rintro e w2 ⟨v', rfl, hl2, hx⟩
      rw [hln] at hx
      have hw2 := hid (hl.trans hl2)
      rcases arr_cases hx with ⟨a2, cap2, rfl, h02, _, hmax2⟩ | ⟨b2, off2, cap2, rfl, hpos2, hlen2, hb2, hcap2, hmax2, hcell2⟩
      · omega
      have HC2 := hid hcell2
      clear hcell2 hx
      go_wp2_with (fail)
      have HC4 := hid (fun j u h => (hl2.cell hb3).trans (HC3.out j u h) : ∀ j u, (pairs ps)[j]? = some u → w2.cell? ⟨b3, off3 + j, none⟩ = some u)
      have hb32 : b3 < w2.heap.size := Nat.lt_of_lt_of_le hb3 hl2.size
      go_loopw [14] (fun i wa => ∃ k : Nat, k ≤ zs.length ∧ i = .int .i64 k ∧ Later w2 wa) (fun i _ => zs.length - (intOf i).toNat)
      case atStart => exact ⟨0, Nat.zero_le _, rfl, Later.refl _⟩
      case round =>
        obtain ⟨i, hi, rfl, hla⟩ := hrel
        by_cases hil : i < zs.length
        · obtain ⟨wo, rfl⟩ : ∃ wo : World, wo = wr := ⟨_, rfl⟩
          go_wp2_with (fail)
          go_loopw [15, 16] (fun sm kk wb => ∃ k : Nat, i ≤ k ∧ k ≤ zs.length ∧ kk = .int .i64 k ∧ sm = .int .i64 (G (r + 1) (n + 1) ps i k) ∧ Later w2 wb) (fun _ kk _ => zs.length - (intOf kk).toNat)
          case atStart => exact ⟨i, Nat.le_refl _, hi, rfl, by rw [G_zero], hla⟩
          case round =>
            obtain ⟨k, hik, hk', rfl, rfl, hlb⟩ := hrel
            by_cases hkl : k < zs.length
            · have hip : i < ps.length := by omega
              have hkp : k < ps.length := by omega
              have hat := pairs_at ps k hkp
              have hati := pairs_at ps i hip
              have hbb : b3 < wr.heap.size := Nat.lt_of_lt_of_le hb32 hlb.size
              have hbb2 : b2 < wr.heap.size := Nat.lt_of_lt_of_le hb2 hlb.size
              have c0 : wr.cell? ⟨b3, off3 + k * 2, none⟩ = some (.int .i64 ps[k].1) := (hlb.cell hb32).trans (HC4.out _ _ hat.1)
              have c1 : wr.cell? ⟨b3, off3 + k * 2 + 1, none⟩ = some (.int .i64 ps[k].2) := (hlb.cell hb32).trans (HC4.out _ _ hat.2)
              have c2 : wr.cell? ⟨b3, off3 + i * 2, none⟩ = some (.int .i64 ps[i].1) := (hlb.cell hb32).trans (HC4.out _ _ hati.1)
              have c3 : wr.cell? ⟨b2, off2 + k, none⟩ = some (.bool (goOk (r + 1) (n + 1) (runS (r + 1) (n + 1) (ps.take k) (b0 (r + 1) (n + 1))) ps[k])) := (hlb.cell hb2).trans (HC2.out k _ (by simp [outS_at (r + 1) (n + 1) ps (b0 (r + 1) (n + 1)) k hkp]))
              clear hat hati
              have gs := G_succ (r + 1) (n + 1) ps i k hik hkp
              have gb := G_bound (r + 1) (n + 1) (by omega) (by omega) (by omega) (by omega) ps hHF.out i k hik hkp
              have gd := G_bd (r + 1) (n + 1) ps hHF.out i (k - i) (by omega)
              rw [show i + (k - i) = k by omega] at gd
              obtain ⟨fk1, fk2, fk3, fk4⟩ := fit_at ps 0 (by omega) hHF.out k hkp
              obtain ⟨fi1, fi2, _, _⟩ := fit_at ps 0 (by omega) hHF.out i hip
              rw [gs] at gb
              generalize goOk (r + 1) (n + 1) (runS (r + 1) (n + 1) (ps.take k) (b0 (r + 1) (n + 1))) ps[k] = m at *
              generalize G (r + 1) (n + 1) ps i k = g at *
              have HGS := hid gs
              clear gs
              generalize ps[k] = y at *
              generalize ps[i] = z at *
              have HL := hid hlb
              clear hlb
              have gd2 : g ≤ 4000000 := by omega
              have gd1 := gd.1
              clear gd
              have hmb : -65536000000 ≤ (r + 1) * (y.1 - z.1) ∧ (r + 1) * (y.1 - z.1) ≤ 65536000000 := by
                constructor
                · have h1 : (r + 1) * (-1000000) ≤ (r + 1) * (y.1 - z.1) := Int.mul_le_mul_of_nonneg_left (by omega) (by omega)
                  omega
                · have h1 : (r + 1) * (y.1 - z.1) ≤ (r + 1) * 1000000 := Int.mul_le_mul_of_nonneg_left (by omega) (by omega)
                  omega
              cases m
              · rw [if_neg (by decide)] at gb HGS
                have q1 : IntKind.i64.wrap (y.1 - z.1) = y.1 - z.1 := IntWalk.i64_in _ (by omega)
                have q2 : IntKind.i64.wrap ((r + 1) * (y.1 - z.1)) = (r + 1) * (y.1 - z.1) := IntWalk.i64_in _ (by omega)
                have q3 : IntKind.i64.wrap (n + 1 + (r + 1) * (y.1 - z.1)) = n + 1 + (r + 1) * (y.1 - z.1) := IntWalk.i64_in _ (by omega)
                have hdk : decide (n + 1 + (r + 1) * (y.1 - z.1) < g) = false := decide_eq_false (by omega)
                go_wp2_with (fail)
                refine wp_region_calm (by kernel_rfl) (by kernel_rfl) ?_
                repeat (go_big_quiet_step (fail))
                refine wpQuiet_nil ?_
                rintro _ ⟨x, rfl⟩
                go_wp2_with (fail)
                go_roundw
                case rel => exact ⟨k + 1, by omega, by omega, by go_num, by rw [HGS.out, Int.add_zero], HL.out.latr _⟩
                case measure => simp [intOf]; omega
              · rw [if_pos rfl] at gb HGS
                have q0 : IntKind.i64.wrap (g + y.2) = g + y.2 := IntWalk.i64_in _ (by omega)
                have q1 : IntKind.i64.wrap (y.1 - z.1) = y.1 - z.1 := IntWalk.i64_in _ (by omega)
                have q2 : IntKind.i64.wrap ((r + 1) * (y.1 - z.1)) = (r + 1) * (y.1 - z.1) := IntWalk.i64_in _ (by omega)
                have q3 : IntKind.i64.wrap (n + 1 + (r + 1) * (y.1 - z.1)) = n + 1 + (r + 1) * (y.1 - z.1) := IntWalk.i64_in _ (by omega)
                have hdk : decide (n + 1 + (r + 1) * (y.1 - z.1) < g + y.2) = false := decide_eq_false (by omega)
                go_wp2_with (fail)
                refine wp_region_calm (by kernel_rfl) (by kernel_rfl) ?_
                repeat (go_big_quiet_step (fail))
                refine wpQuiet_nil ?_
                rintro _ ⟨x, rfl⟩
                go_wp2_with (fail)
                go_roundw
                case rel => exact ⟨k + 1, by omega, by omega, by go_num, by rw [HGS.out], HL.out.latr _⟩
                case measure => simp [intOf]; omega
            · obtain rfl : k = zs.length := by omega
              have HL := hid hlb
              clear hlb
              go_wp2_with (fail)
              go_roundw
              case rel => exact ⟨i + 1, by omega, by go_num, HL.out⟩
              case measure => simp [intOf]; omega
        · obtain rfl : i = zs.length := by omega
          have hw4 := hid (hw2.out.trans hla)
          go_wp2_with (fail)
          go_ret
          exact ⟨rfl, by with_reducible exact hw4.out⟩
end Go.Proofs.Ytfjofifkepmdfaa
