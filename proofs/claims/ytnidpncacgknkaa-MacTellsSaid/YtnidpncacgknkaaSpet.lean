/- As the law of specials (Spec), where the last operation, which waits for all others, may write wherever. No condition. -/
import Derived.Test.YtnidpncacgknkaaSpec
namespace Go.Proofs.Ytnidpncacgknkaa
open Go.RowKit
section
variable {P : Program} {ops : Array Oper} {md : Region.Mode}
/-- the specials that are left ahead of the last operation, which waits for all others; then that one, which may write wherever; then R -/
def wpSt (P : Program) (md : Region.Mode) (ops : Array Oper) (w0 : World) (R : Act → World → Prop) (last : Nat) : Nat → List Nat → Act → World → Prop
  | 0, rem, F, w => rem = [] ∧ ∀ w', Later w w' → ∃ o, ops[last]? = some o ∧ if Region.wanted o (yielded ops F.tmps) then o.wp P F w' (fun F' w'' => R F' w'') (fun _ _ _ => False) else R (F.put o.dst undef) w'
  | n + 1, rem, F, w => (rem = [] → ∀ w', Later w w' → ∃ o, ops[last]? = some o ∧ if Region.wanted o (yielded ops F.tmps) then o.wp P F w' (fun F' w'' => R F' w'') (fun _ _ _ => False) else R (F.put o.dst undef) w') ∧
    ∀ i ∈ rem, (rem.all fun j => !Region.waitsFor md ops i j) = true → ∀ w', Later w w' → ∃ o, ops[i]? = some o ∧
      if Region.wanted o (yielded ops F.tmps) then o.wp P F w' (fun F' w'' => Later w0 w'' ∧ wpSt P md ops w0 R last n (rem.erase i) F' w'') (fun _ _ _ => False) else wpSt P md ops w0 R last n (rem.erase i) (F.put o.dst undef) w'
theorem wpSt_nil {R : Act → World → Prop} {F : Act} {w w0 : World} {n last : Nat} {o : Oper} (ho : ops[last]? = some o) (hg : o.guard = none)
    (h : ∀ (x : Lat w) (K : Act → World → Prop), (∀ a w, R a w → K a w) → o.wp P F (latr w x) K (fun _ _ _ => False)) : wpSt P md ops w0 R last n [] F w := by
  have h' : ∀ w', Later w w' → ∃ o, ops[last]? = some o ∧ if Region.wanted o (yielded ops F.tmps) then o.wp P F w' (fun F' w'' => R F' w'') (fun _ _ _ => False) else R (F.put o.dst undef) w' := fun w' hl => by
    obtain ⟨x, rfl⟩ := is_latr hl
    exact ⟨o, ho, by rw [if_pos (by simp [Region.wanted, hg])]; exact h x _ (fun _ _ h => h)⟩
  cases n with
  | zero => exact ⟨rfl, h'⟩
  | succ n => exact ⟨fun _ => h', fun i hi => (by cases hi)⟩
theorem wpSt_step {R : Act → World → Prop} {F : Act} {w w0 : World} {n last : Nat} {rem : List Nat} (ms : List Nat) (hms : minis md ops rem = ms) (hne : rem ≠ [])
    (h : ∀ i ∈ ms, ∀ (x : Lat w) (K : Act → World → Prop), (∀ a w, Later w0 w → wpSt P md ops w0 R last n (rem.erase i) a w → K a w) → ∃ o, ops[i]? = some o ∧
      if Region.wanted o (yielded ops F.tmps) then o.wp P F (latr w x) K (fun _ _ _ => False) else wpSt P md ops w0 R last n (rem.erase i) (F.put o.dst undef) (latr w x)) : wpSt P md ops w0 R last (n + 1) rem F w := by
  refine ⟨fun h0 => absurd h0 hne, fun i hi hm w' hl => ?_⟩
  obtain ⟨x, rfl⟩ := is_latr hl
  exact h i (by rw [← hms]; exact List.mem_filter.2 ⟨hi, hm⟩) x _ (fun _ _ h1 h2 => ⟨h1, h2⟩)
theorem spet_one {R : Act → World → Prop} {F : Act} {w0 W : World} {n last : Nat} {rem : List Nat} {i : Nat} {K : Act → World → Prop} {o : Oper} (ho : ops[i]? = some o) (hg : o.guard = none)
    (h : o.wp P F W K (fun _ _ _ => False)) : ∃ o, ops[i]? = some o ∧ if Region.wanted o (yielded ops F.tmps) then o.wp P F W K (fun _ _ _ => False) else wpSt P md ops w0 R last n (rem.erase i) (F.put o.dst undef) W :=
  ⟨o, ho, by rw [if_pos (by simp [Region.wanted, hg])]; exact h⟩
theorem wpSt_later {R : Act → World → Prop} {F : Act} {w w1 w0 : World} {n last : Nat} {l : List Nat} (h : wpSt P md ops w0 R last n l F w) (hl : Later w w1) : wpSt P md ops w0 R last n l F w1 := by
  cases n with
  | zero => exact ⟨h.1, fun w' h' => h.2 w' (hl.trans h')⟩
  | succ n => exact ⟨fun h0 w' h' => h.1 h0 w' (hl.trans h'), fun i hi hm w' h' => h.2 i hi hm w' (hl.trans h')⟩
theorem wpAny_done {Q : Exit → Act → World → Prop} {a : Act} {w : World} (n : Nat) {done : Array Bool} (hd : ∀ j, j < ops.size → done.getD j true = true) (h : Q .normal a w) : wpAny P md ops Q n done a w := by
  have hr : Region.ready md ops done = [] := List.eq_nil_iff_forall_not_mem.2 fun j hj => by
    obtain ⟨h1, o, ho, _⟩ := mem_ready.1 hj
    rw [hd j (Array.getElem?_eq_some_iff.1 ho).1] at h1
    cases h1
  cases n with
  | zero => exact ⟨hr, h⟩
  | succ n => exact ⟨fun _ => h, fun i hi => by rw [hr] at hi; cases hi⟩

theorem wpAny_spect {σ : List Nat} {last : Nat} {a af : Act} {w : World} {Q : Exit → Act → World → Prop} {R : Act → World → Prop} (hR : ∀ F w', R F w' → Q .normal F w') (ok : FloatOk md ops (last :: σ)) (hlw : ∀ j, j < ops.size → j ≠ last → Region.waitsFor md ops last j = true) (hls : last < ops.size) (hln : last ∉ σ) (E : Each P ops (last :: σ) w a af)
    (haf : ∀ t, (∀ (i : Nat) oi, ops[i]? = some oi → i ∉ last :: σ → oi.dst ≠ some t) → af.tmps[t]? = a.tmps[t]?) : ∀ (n : Nat) (und : List Nat) (done : Array Bool) (F ak : Act) (wk : World) (m : Nat) (r : List Nat), und.length = n →
      (∀ j, j < ops.size → done.getD j true = false → j ∈ und) → Sofar md ops (last :: σ) a af F ak done → done.getD last true = false → Later w wk → r.Nodup → r.length ≤ m → (∀ i ∈ σ, done.getD i true = false → i ∈ r) → (∀ i ∈ r, i ∈ σ ∧ done.getD i true = false) →
      wpSt P md ops w R last m r F wk → wpAny P md ops Q n done ak wk := by
  intro n
  induction n with
  | zero =>
    intro und done F ak wk m r hu hun hS hlu hl hnd hm hσ hr hsp
    obtain rfl := List.eq_nil_of_length_eq_zero hu
    exact absurd (hun last hls hlu) (by simp)
  | succ n ih =>
    intro und done F ak wk m r hu hun hS hlu hl hnd hm hσ hr hsp
    refine ⟨fun h0 => absurd (all_done ok hS.size h0 last hls) (by rw [hlu]; simp), fun i hi => ?_⟩
    obtain ⟨hiu, oi, hoi, hall⟩ := mem_ready.1 hi
    have him : i ∈ und := hun i (Array.getElem?_eq_some_iff.1 hoi).1 hiu
    have hlen : (und.erase i).length = n := by rw [List.length_erase_of_mem him, hu]; rfl
    have hun' : ∀ j, j < ops.size → (done.setIfInBounds i true).getD j true = false → j ∈ und.erase i := by
      intro j hj hjd
      by_cases hij : i = j
      · subst hij; rw [getD_set_at] at hjd; cases hjd
      · rw [getD_set_ne true hij] at hjd
        exact (List.mem_erase_of_ne (Ne.symm hij)).2 (hun j hj hjd)
    have keep : ∀ j, (done.setIfInBounds i true).getD j true = false → done.getD j true = false := by
      intro j hjd
      by_cases hij : i = j
      · subst hij; rw [getD_set_at] at hjd; cases hjd
      · rwa [getD_set_ne true hij] at hjd
    by_cases hil : i = last
    · subst hil
      have hrn : r = [] := List.eq_nil_iff_forall_not_mem.2 fun j hj => by
        have hjd := (hr j hj).2
        have hjs : j < ops.size := by
          rcases Nat.lt_or_ge j ops.size with h | h
          · exact h
          · rw [← hS.size] at h; simp [Array.getElem?_eq_none h] at hjd
        have hw := hlw j hjs (fun e => hln (e ▸ (hr j hj).1))
        obtain ⟨oj, hoj, e, he, hb, hon⟩ := Region.waitsFor_spec hw
        obtain rfl : oi = oj := Option.some.inj (hoi.symm.trans hoj)
        have h1 := getD_true_of (hall e he hb)
        rw [hon, hjd] at h1
        cases h1
      subst hrn
      have hsp' : ∀ w', Later wk w' → ∃ o, ops[i]? = some o ∧ if Region.wanted o (yielded ops F.tmps) then o.wp P F w' (fun F' w'' => R F' w'') (fun _ _ _ => False) else R (F.put o.dst undef) w' := by
        cases m with
        | zero => exact hsp.2
        | succ m => exact hsp.1 rfl
      obtain ⟨o, ho, hcase⟩ := hsp' wk (Later.refl _)
      obtain rfl : oi = o := Option.some.inj (hoi.symm.trans ho)
      have hlook := hS.special ok haf hoi (List.mem_cons_self ..) hall
      have hsel := Region.noSelect_spec ok.sel
      have hdone : ∀ j, j < ops.size → (done.setIfInBounds i true).getD j true = true := fun j hj => by
        by_cases hji : j = i
        · subst hji; exact getD_set_at
        · obtain ⟨oj, hoj, e, he, hb, hon⟩ := Region.waitsFor_spec (hlw j hj hji)
          obtain rfl : oi = oj := Option.some.inj (hoi.symm.trans hoj)
          exact done_mono (by rw [← hon]; exact getD_true_of (hall e he hb))
      have go : ∀ ds v w', R ({ F with defers := ds }.put oi.dst v) w' → wpAny P md ops Q n (done.setIfInBounds i true) ({ ak with defers := ds }.put oi.dst v) w' := by
        intro ds v w' h
        have hS' : Sofar md ops (i :: σ) a af ({ F with defers := ds }.put oi.dst v) ({ ak with defers := ds }.put oi.dst v) (done.setIfInBounds i true) := by
          refine hS.next (F' := { F with defers := ds }.put oi.dst v) (a' := { ak with defers := ds }.put oi.dst v) ok hoi hiu hall put_size put_size ?_ (fun t ht => put_ne ht) (fun t ht => put_ne ht) (fun t ht => ?_) (fun h => absurd (List.mem_cons_self ..) h)
          · rw [put_defers, put_defers]
          · rw [ht]
            rcases Nat.lt_or_ge t a.tmps.size with hlt | hge
            · rw [put_eq (by show t < ak.tmps.size; rw [hS.sizeK]; exact hlt), put_eq (by show t < F.tmps.size; rw [hS.sizeF]; exact hlt)]
            · rw [Array.getElem?_eq_none (by rw [put_size]; show ak.tmps.size ≤ t; rw [hS.sizeK]; exact hge), Array.getElem?_eq_none (by rw [put_size]; show F.tmps.size ≤ t; rw [hS.sizeF]; exact hge)]
        refine wpAny_done n hdone ?_
        rw [hS'.full haf hdone]
        exact hR _ _ h
      unfold wpOp
      simp only [hoi]
      rw [wanted_same hlook]
      split
      · rename_i hw
        rw [if_pos hw] at hcase
        exact .inl (wp_over (exec_same (fun cs b => hsel i oi cs b hoi) hlook) hS.defers (fun ds v w' h => go ds v w' h) hcase)
      · rename_i hw
        rw [if_neg hw] at hcase
        have := go F.defers undef wk hcase
        rw [← hS.defers] at this
        exact this
    have hlu' : (done.setIfInBounds i true).getD last true = false := by rw [getD_set_ne true hil]; exact hlu
    by_cases his : i ∈ σ
    · have hir := hσ i his hiu
      cases m with
      | zero => obtain ⟨h0, _⟩ := hsp; rw [h0] at hir; cases hir
      | succ m =>
        have hmin : (r.all fun j => !Region.waitsFor md ops i j) = true := by
          rw [List.all_eq_true]
          intro j hj
          cases hw : Region.waitsFor md ops i j with
          | false => rfl
          | true =>
            obtain ⟨oj, hoj, e, he, hb, hon⟩ := Region.waitsFor_spec hw
            obtain rfl : oi = oj := Option.some.inj (hoi.symm.trans hoj)
            have h1 := getD_true_of (hall e he hb)
            rw [hon, (hr j hj).2] at h1
            cases h1
        have hlook := hS.special ok haf hoi (List.mem_cons_of_mem _ his) hall
        have hsel := Region.noSelect_spec ok.sel
        obtain ⟨o, ho, hcase⟩ := hsp.2 i hir hmin wk (Later.refl _)
        obtain rfl : oi = o := Option.some.inj (hoi.symm.trans ho)
        have hσ' : ∀ j ∈ σ, (done.setIfInBounds i true).getD j true = false → j ∈ r.erase i := fun j hj hjd => by
          have hji : j ≠ i := by rintro rfl; rw [getD_set_at] at hjd; cases hjd
          exact (List.mem_erase_of_ne hji).2 (hσ j hj (keep j hjd))
        have hr' : ∀ j ∈ r.erase i, j ∈ σ ∧ (done.setIfInBounds i true).getD j true = false := fun j hj => by
          have hji : j ≠ i := by rintro rfl; exact hnd.not_mem_erase hj
          have hjr := List.mem_of_mem_erase hj
          refine ⟨(hr j hjr).1, ?_⟩
          rw [getD_set_ne true (Ne.symm hji)]
          exact (hr j hjr).2
        have hm' : (r.erase i).length ≤ m := by rw [List.length_erase_of_mem hir]; omega
        have go : ∀ ds v w', Later w w' → wpSt P md ops w R last m (r.erase i) ({ F with defers := ds }.put oi.dst v) w' → wpAny P md ops Q n (done.setIfInBounds i true) ({ ak with defers := ds }.put oi.dst v) w' := by
          intro ds v w' hl' hsp'
          refine ih (und.erase i) _ ({ F with defers := ds }.put oi.dst v) _ w' m (r.erase i) hlen hun' (hS.next (F' := { F with defers := ds }.put oi.dst v) (a' := { ak with defers := ds }.put oi.dst v) ok hoi hiu hall put_size put_size ?_ (fun t ht => put_ne ht) (fun t ht => put_ne ht) (fun t ht => ?_) (fun h => absurd (List.mem_cons_of_mem _ his) h)) hlu' hl' (hnd.erase i) hm' hσ' hr' hsp'
          · rw [put_defers, put_defers]
          · rw [ht]
            rcases Nat.lt_or_ge t a.tmps.size with hlt | hge
            · rw [put_eq (by show t < ak.tmps.size; rw [hS.sizeK]; exact hlt), put_eq (by show t < F.tmps.size; rw [hS.sizeF]; exact hlt)]
            · rw [Array.getElem?_eq_none (by rw [put_size]; show ak.tmps.size ≤ t; rw [hS.sizeK]; exact hge), Array.getElem?_eq_none (by rw [put_size]; show F.tmps.size ≤ t; rw [hS.sizeF]; exact hge)]
        unfold wpOp
        simp only [hoi]
        rw [wanted_same hlook]
        split
        · rename_i hw
          rw [if_pos hw] at hcase
          exact .inl (wp_over (exec_same (fun cs b => hsel i oi cs b hoi) hlook) hS.defers (fun ds v w' h => go ds v w' h.1 h.2) hcase)
        · rename_i hw
          rw [if_neg hw] at hcase
          have := go F.defers undef wk hl hcase
          rw [← hS.defers] at this
          exact this
    · have his' : i ∉ last :: σ := fun h => by rcases List.mem_cons.1 h with h | h; exact hil h; exact his h
      obtain ⟨v, hy, hS'⟩ := hS.quiet ok E hoi his' hiu hall hl
      have q : qOp P ops (Later wk) i (fun a' => a' = ak.put oi.dst v) ak := hy.qOp hoi rfl
      refine wpOp_of_qOp (C := Later wk) (Later.refl _) (fun a' w' hl' e => ?_) q
      subst e
      refine ih (und.erase i) _ F _ w' m r hlen hun' hS' hlu' (hl.trans hl') hnd hm (fun j hj hjd => hσ j hj (keep j hjd)) (fun j hj => ⟨(hr j hj).1, ?_⟩) (wpSt_later hsp hl')
      rw [getD_set_ne true (fun (e : i = j) => his (by rw [e]; exact (hr j hj).1))]
      exact (hr j hj).2

theorem wp_region_spect {id : Nat} {Q : Exit → Act → World → Prop} {a : Act} {w : World} {l : List Oper} (σ : List Nat) (last : Nat) (af : Act) (R : Act → Act → World → Prop) (hm : P.follows .mixedOrders = true)
    (hB : (Region.floatB .any l.toArray (last :: σ) && decide (last :: σ).Nodup && (last :: σ).all (fun i => decide (i < l.length)) && (List.range l.length).all fun j => decide (j = last) || Region.waitsFor .any l.toArray last j) = true)
    (h : ∀ u, Later w u → wpQuiet P l.toArray (fun w' => ∃ y, w' = latr u y) (fun a' => a' = af) (pickQ (last :: σ) 0 l) a)
    (hs : wpSt P .any l.toArray w (R af) last σ.length σ af w.drew) (hR : ∀ F w', R af F w' → Q .normal F w') : (Code.region id l.toArray true).wp P Q a w := by
  simp only [Bool.and_eq_true, decide_eq_true_eq, List.all_eq_true] at hB
  obtain ⟨⟨⟨hB, hnd⟩, hlt⟩, hlw⟩ := hB
  obtain ⟨hln, hnd'⟩ := List.nodup_cons.1 hnd
  have ok := floatOk hB
  have hops : ∀ (i : Nat) (o : Oper), l.toArray[i]? = some o ↔ l[i]? = some o := fun i o => by simp
  obtain ⟨z1, z2, z3⟩ := walk_ends _ a (h w (Later.refl w))
  have haf : ∀ t, (∀ (i : Nat) oi, l.toArray[i]? = some oi → i ∉ last :: σ → oi.dst ≠ some t) → af.tmps[t]? = a.tmps[t]? := fun t ht => z3 t fun o ho => by
    obtain ⟨i, h1, _, h3⟩ := pickQ_mem l 0 o ho
    exact ht i o ((hops i o).2 (by simpa using h3)) h1
  have E : Each P l.toArray (last :: σ) w a af := by
    intro j oj hj hjs u hu
    obtain ⟨l1, l2, e, m1, m2⟩ := pickQ_split (σ := last :: σ) l 0 j oj (Nat.zero_le _) (by simpa using (hops j oj).1 hj) hjs
    have hx := h u hu
    rw [cls_eq, e] at hx
    obtain ⟨a1, v, g1, g2, g3, g4, g5⟩ := walk_at _ _ _ a hx
    refine ⟨a1, v, g1, fun t ht => g2 t fun o ho => ?_, fun t ht => g3 t fun o ho => ?_, fun t ht => g4 t fun o ho => ?_, g5⟩
    · obtain ⟨i, h1, _, h3, h4⟩ := m1 o ho
      exact ht i o ((hops i o).2 (by simpa using h4)) h1 h3
    · rcases List.mem_cons.1 ho with rfl | ho
      · exact ht j _ hj hjs (Nat.le_refl _)
      · obtain ⟨i, h1, h3, h4⟩ := m2 o ho
        exact ht i o ((hops i o).2 (by simpa using h4)) h1 (by omega)
    · obtain ⟨i, h1, h3, h4⟩ := m2 o ho
      exact ht i o ((hops i o).2 (by simpa using h4)) h1 h3
  have hund : ∀ j, j < l.toArray.size → (Array.replicate l.toArray.size false).getD j true = false := fun j hj => getD_in (by simpa using hj) (getD_replicate_false _ _)
  refine wp_region_any hm ?_
  refine wpAny_spect (σ := σ) (last := last) (a := a) (af := af) (w := w) (R := R af) hR ok (fun j hj hne => ?_) (by simpa using hlt last (List.mem_cons_self ..)) hln E haf l.toArray.size (List.range l.toArray.size) _ af a w.drew σ.length σ (by simp) (fun j hj _ => List.mem_range.2 hj) ?_ (hund last (by simpa using hlt last (List.mem_cons_self ..))) (Later.refl _).drew hnd' (Nat.le_refl _) (fun i hi _ => hi) (fun i hi => ⟨hi, hund i ?_⟩) hs
  · have := hlw j (List.mem_range.2 (by simpa using hj))
    rw [decide_eq_false hne, Bool.false_or] at this
    exact this
  · refine ⟨by simp, fun j oj hj hdn => ?_, z1, rfl, z2.symm, fun j oj t hj _ hdn => ?_, fun _ _ => rfl, fun _ _ => rfl⟩
    · rw [hund j (Array.getElem?_eq_some_iff.1 hj).1] at hdn; cases hdn
    · rw [hund j (Array.getElem?_eq_some_iff.1 hj).1] at hdn; cases hdn
  · simpa using hlt i (List.mem_cons_of_mem _ hi)
end
end Go.Proofs.Ytnidpncacgknkaa
