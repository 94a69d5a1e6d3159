/- The walk of Acts: what runes ask for, one behind the other. Of at most a thousand runes. -/
import Derived.Test.YtjgaljnojhkimaaSame
import Derived.Test.YtjgaljnojhkimaaArr
import Derived.Test.YtjgaljnojhkimaaRoom
namespace Go.Proofs.Ytjgaljnojhkimaa
open Go.RowKit
attribute [local go_sem] ite_max ite_min
attribute [local go_sem] h_lt1 h_lt2 h_lt3 h_lt4 h_lt5 h_lt6 h_eq1 h_qe1 h_eq2 h_qe2 h_eq3 h_qe3 h_eq4 h_qe4 h_eq5 h_qe5 h_eq6 h_qe6

theorem info25 : (Try.prog.info? 25).map (fun i => (i.zero, i.size, i.bytes)) = some (some (.agg #[.int .i64 0, .int .i64 0, .bool false, .int .i64 0, .int .i64 0, .int .i64 0, .int .i64 0, .int .i64 0, .int .i64 0, .int .i64 0, .int .i64 0, .int .i64 0]), 12, 96) := by kernel_rfl
def actsP (p : Pa) : List Int → List Ac × Pa
  | [] => ([], p)
  | n :: l => ((if (stepP p n).2.2 = true then [(stepP p n).2.1] else []) ++ (actsP (stepP p n).1 l).1, (actsP (stepP p n).1 l).2)
theorem actsP_append (p : Pa) (a b : List Int) : actsP p (a ++ b) = ((actsP p a).1 ++ (actsP (actsP p a).2 b).1, (actsP (actsP p a).2 b).2) := by
  induction a generalizing p with
  | nil => rfl
  | cons x a ih => simp only [List.cons_append, actsP, ih, List.append_assoc]
theorem actsP_snoc (p : Pa) (l : List Int) (x : Int) : actsP p (l ++ [x]) = ((actsP p l).1 ++ (if (stepP (actsP p l).2 x).2.2 = true then [(stepP (actsP p l).2 x).2.1] else []), (stepP (actsP p l).2 x).1) := by
  rw [actsP_append]
  simp [actsP]
theorem actsP_len (l : List Int) : ∀ p, (actsP p l).1.length ≤ l.length := by
  induction l with
  | nil => intro p; simp [actsP]
  | cons x l ih =>
    intro p
    have := ih (stepP p x).1
    simp only [actsP, List.length_append, List.length_cons]
    split <;> simp <;> omega
theorem own_sets {w : World} {base : Nat} {e : TypeId} {size : Nat} {v : Value} {n : Nat} {xs : List Value} {g : Nat} (h : w.ownsRow base e size v n xs) (hp : some g ≠ v.ownBlock) : ∀ (vs : List Value) (o : Nat), (w.setCells g o vs).ownsRow base e size v n xs := by
  intro vs
  induction vs generalizing w with
  | nil => intro o; exact h
  | cons u r ih => intro o; exact ih (own_set (p := ⟨g, o, none⟩) h hp u) (o + 1)
theorem own_ne_low {w : World} {base : Nat} {e : TypeId} {size : Nat} {v : Value} {n : Nat} {xs : List Value} (h : w.ownsRow base e size v n xs) {b : Nat} (hb : b < base) : some b ≠ v.ownBlock := fun e1 => by
  have := (h.lt b e1.symm).1
  omega
theorem own_ne_high {w : World} {base : Nat} {e : TypeId} {size : Nat} {v : Value} {n : Nat} {xs : List Value} (h : w.ownsRow base e size v n xs) : some w.heap.size ≠ v.ownBlock := fun e1 => by
  have := (h.lt _ e1.symm).2
  omega
theorem own_mono {w : World} {base base' : Nat} {e : TypeId} {size : Nat} {v : Value} {n : Nat} {xs : List Value} (h : w.ownsRow base e size v n xs) (hb : base' ≤ base) : w.ownsRow base' e size v n xs := by
  obtain ⟨h1, h2 | ⟨g, cap, cur, h3, h4, h5⟩⟩ := h
  · exact ⟨h1, .inl h2⟩
  · exact ⟨h1, .inr ⟨g, cap, cur, h3, Nat.le_trans hb h4, h5⟩⟩
theorem als_append (a b : List Ac) : als (a ++ b) = als a ++ als b := List.flatMap_append
def MadeA (w : World) (r : List Ac × Pa) (e : Ending) (w' : World) : Prop :=
  ∃ v, e = .returned (.tuple #[v, pv r.2]) ∧ Later w w' ∧ w'.ownsRow w.heap.size 25 12 v r.1.length (als r.1)
theorem list_of_wp {P : Program} {ops : Array Oper} {o : Oper} {rest : List Oper} {a : Act} {Q : Exit → Act → World → Prop} {w : World} (hgd : o.guard = none) (h : o.wp P a w (wpList P ops Q rest) Q) : wpList P ops Q (o :: rest) a w := by
  unfold wpList
  rw [if_pos (by simp [Region.wanted, hgd])]
  exact .inl h
set_option maxRecDepth 100000 in
set_option maxHeartbeats 8000000 in
theorem acts13 (h9 : ∀ (q : Pa) (n : Int) (w : World), Gives Try.prog 9 #[pv q, .int .i64 n] w (rv (stepP q n))) (p : Pa) (v : Value) (l : List Int) (w : World) (hlen : l.length ≤ 1000) (hv : Arr w 1 v l.length (l.map iv)) : Calls Try.prog 13 #[pv p, v] w (MadeA w (actsP p l)) := by
  obtain ⟨i0, hi0, hz0, hz1, hz2⟩ := info_parts info25
  obtain ⟨_, a, cap, rfl, hcap, hmax, hx⟩ := hv
  have HX := hid hx
  clear hx
  unfold maxLen at hmax
  (go_enter Try.func13, Try.ntmps13; go_wp2_with (fail))
  go_loopw [4, 12] (fun out i wr => ∃ k : Nat, k ≤ l.length ∧ i = .int .i64 k ∧ Later w wr ∧ Blk wr w.heap.size 27 (pc (actsP p (l.take k)).2) ∧ Blk wr (w.heap.size + 1) 27 (pc .zero) ∧ wr.ownsRow (w.heap.size + 2) 25 12 out (actsP p (l.take k)).1.length (als (actsP p (l.take k)).1)) (fun _ i _ => l.length - (intOf i).toNat)
  case atStart => exact ⟨0, Nat.zero_le _, rfl, by repeat (first | (with_reducible exact Later.refl _) | with_reducible apply Later.latr | with_reducible apply Later.alloc | with_reducible apply Later.drew | (with_reducible refine Later.set ?_ (by (simp; try omega)) _)), (Blk.new w 27 (pc p)).alloc _, blk_new (by simp), World.ownsRow_nil _ _ _ _⟩
  case round =>
    obtain ⟨k, hk, rfl, hl, hA, hB, hO⟩ := hrel
    have hkl := actsP_len (l.take k) p
    rw [List.length_take] at hkl
    have hle := hB.lt
    by_cases hlt : k < l.length
    · obtain ⟨b, off, rfl, hb, hcell⟩ := HX.out (by omega)
      have c0 : wr.cell? ⟨b, off + k, none⟩ = some (iv l[k]) := (hl.cell hb).trans (hcell k _ (by simp [hlt]))
      have hbw : b < wr.heap.size := Nat.lt_of_lt_of_le hb hl.size
      have hsn := actsP_snoc p (l.take k) l[k]
      rw [← take_succ_ l k hlt] at hsn
      generalize actsP p (l.take k) = r at *
      generalize l[k] = x at *
      have HS := hid hsn
      have HB := hid hB
      have HO := hid hO
      have HL := hid hl
      have HA := hid hA
      have htA := hA.there (o := 0) (n := 13) (by simp)
      have hcA := hA.cells 0 13 (pl r.2) rfl rfl
      have hgA := hA.lt
      clear hsn hB hO hl hA hcell
      go_wp2_with (fail)
      refine (h9 r.2 x _).later.mono ?_
      generalize stepP r.2 x = s at *
      rintro e W1 ⟨rfl, hl1⟩
      obtain ⟨s1, s2, s3⟩ := s
      have HA1 := hid ((HA.out.alloc (.cells (ac .zero) 25)).later hl1)
      have HB1 := hid ((HB.out.alloc (.cells (ac .zero) 25)).later hl1)
      have HQ1 := hid ((Blk.new wr 25 (ac .zero)).later hl1)
      have HO1 := hid (own_later (HO.out.alloc (.cells (ac .zero) 25)) hl1)
      have HL1 := hid ((HL.out.alloc (.cells (ac .zero) 25)).trans hl1)
      have hne : w.heap.size ≠ wr.heap.size := by omega
      have hne2 : w.heap.size + 1 ≠ wr.heap.size := by omega
      have hne3 : w.heap.size + 1 ≠ w.heap.size := by omega
      have hwr : w.heap.size ≤ wr.heap.size := by omega
      clear htA hcA hl1 c0
      have htA1 := HA1.out.there (o := 0) (n := 13) (by simp)
      have htQ1 := HQ1.out.there (o := 0) (n := 12) (by simp)
      have hnl := own_ne_low HO1.out (b := w.heap.size) (by omega)
      have hnq := own_ne_high HO.out
      have HO2 := hid (own_sets (own_sets HO1.out hnl (pl s1) 0) hnq (al s2) 0)
      have HA2 := hid (far_sets (blk_sets (vs := pl s1) HA1.out rfl) hne (al s2) 0)
      have HB2 := hid (far_sets (far_sets HB1.out hne3 (pl s1) 0) hne2 (al s2) 0)
      have HQ2 := hid (blk_sets (vs := al s2) (far_sets HQ1.out hne.symm (pl s1) 0) rfl)
      have HL2 := hid (later_sets (later_sets HL1.out (Nat.le_refl _) (pl s1) 0) hwr (al s2) 0)
      dsimp only at HS
      generalize wr.heap.size = gq at *
      cases s3
      · (simp only [])
        (iterate 22 go_step)
        go_wp2_with (fail)
        go_roundw
        case rel =>
          refine ⟨k + 1, by omega, by go_num, HL2.out, ?_, HB2.out, ?_⟩
          · rw [HS.out]; exact HA2.out
          · rw [HS.out]; simpa using HO2.out
        case measure => simp [intOf]; omega
      · (simp only [])
        (iterate 22 go_step)
        obtain ⟨V, hV⟩ : ∃ V, V = (W1.setCells w.heap.size 0 (pl s1)).setCells gq 0 (al s2) := ⟨_, rfl⟩
        rw [← hV] at HA2 HB2 HQ2 HL2 HO2
        rw [← hV]
        clear hV htA1 htQ1
        have hcQ := HQ2.out.cells 0 12 (al s2) rfl rfl
        have htQ2 := HQ2.out.there (o := 0) (n := 12) (by simp)
        have hls := HL2.out.size
        have hb2 := HB2.out.lt
        go_wp2_with (first
          | (at_builtin
             (refine append_new rfl (.tmp 24) (.tmp 26) 34 rfl (w.heap.size + 2) 25 i0 _ 12 96 Try.underlying34 hi0 hz0 hz1 hz2 rfl (by decide) _ 25 _ _ _ rfl HO2.out _ 1 (al s2) rfl rfl rfl (by simp [Value.oneCell']) (by unfold maxLen; omega) (by omega) (by omega) ?_)
             intro v1 W2 hO3 hg3))
        go_roundw
        case rel =>
          have hl3 : Later w W2 := Later.grown HL2.out hg3 (fun k hk => by have := (HO2.out.lt k hk).1; omega)
          refine ⟨k + 1, by omega, by go_num, hl3, ?_, HB2.out.grown hg3 (own_ne_low HO2.out (by omega)), ?_⟩
          · rw [HS.out]; exact HA2.out.grown hg3 (own_ne_low HO2.out (by omega))
          · rw [HS.out]; simp only [if_true, List.length_append, List.length_cons, List.length_nil, als_append]; exact hO3
        case measure => simp [intOf]; omega
    · obtain rfl : k = l.length := by omega
      rw [List.take_length] at hA hO
      generalize actsP p l = r at *
      have HL := hid hl
      have HO := hid hO
      have hne : w.heap.size ≠ w.heap.size + 1 := by omega
      have hAd := hA.drew
      have hBd := hB.drew
      clear hl hO
      have hn := own_ne_low HO.out (b := w.heap.size + 1) (by omega)
      have hg1 : w.heap.size ≤ w.heap.size + 1 := by omega
      generalize w.heap.size + 1 = g4 at *
      have htA := hAd.there (o := 0) (n := 13) (by simp)
      have htB := hBd.there (o := 0) (n := 13) (by simp)
      have hcA := hAd.cells 0 13 (pl r.2) rfl rfl
      go_wp2_with (fail)
      go_region
      (repeat go_step)
      refine bodyPost_ret (v := .tuple #[_, pv r.2]) ?_ rfl ⟨_, rfl, later_sets HL.out.drew hg1 _ _, own_mono (own_sets (own_later HO.out (Later.refl _).drew) hn _ _) (by omega)⟩
      have l4 := load27 r.2 (blk_sets (vs := pl r.2) hBd rfl)
      simp [results, Try.results13, asAddr, l4]
end Go.Proofs.Ytjgaljnojhkimaa
