/- A region that draws its order, in which some operations ('specials': an alloc, a slice that is built, a call over it, a store, an assign) float between calls and reads: the calls and reads are walked once, in the order of the text, for every later world; then the specials, in each order that their edges allow, from any later world each, at the act in which all calls and reads are done; all orders meet in one relation R. No condition. -/
import Derived.Test.YtnidpncacgknkaaTail
namespace Go.Proofs.Ytnidpncacgknkaa
open Go.RowKit

section
variable {P : Program} {ops : Array Oper} {md : Region.Mode}

theorem exec_same {o : Oper} (hs : ∀ cs b, o.op ≠ .select cs b) {a a' : Act} (h : ∀ d ∈ o.looksAt ops, a.tmps[d]? = a'.tmps[d]?) : execOp a.eval o = execOp a'.eval o :=
  execOp_congr o hs fun x hx => by
    cases x with
    | tmp t =>
      have := h t (by unfold Oper.looksAt; exact List.mem_append_left _ (List.mem_filterMap.2 ⟨.tmp t, by simpa using hx, rfl⟩))
      simp only [Act.eval, Array.getD_eq_getD_getElem?, this]
    | const v => rfl
    | global g => rfl
    | func f => rfl
theorem wanted_same {o : Oper} {a a' : Act} (h : ∀ d ∈ o.looksAt ops, a.tmps[d]? = a'.tmps[d]?) : Region.wanted o (yielded ops a.tmps) = Region.wanted o (yielded ops a'.tmps) := by
  unfold Region.wanted
  cases hg : o.guard with
  | none => rfl
  | some gw =>
    obtain ⟨g, want⟩ := gw
    have hy : yielded ops a.tmps g = yielded ops a'.tmps g := by
      unfold yielded
      cases ht : (ops[g]?).bind (·.dst) with
      | none => rfl
      | some t => simp [h t (by simp [Oper.looksAt, hg, ht])]
    simp only [hy]
theorem put_ne {a : Act} {dst : Option Tmp} {v : Value} {t : Nat} (h : dst ≠ some t) : (a.put dst v).tmps[t]? = a.tmps[t]? := by
  cases dst with
  | none => rfl
  | some d => exact Array.getElem?_setIfInBounds_ne (fun e => h (by rw [e]))
theorem put_eq {a : Act} {v : Value} {t : Nat} (h : t < a.tmps.size) : (a.put (some t) v).tmps[t]? = some v := by
  simp [Act.put, h]
theorem put_size {a : Act} {dst : Option Tmp} {v : Value} : (a.put dst v).tmps.size = a.tmps.size := by
  cases dst with
  | none => rfl
  | some d => simp [Act.put]
theorem put_defers {a : Act} {dst : Option Tmp} {v : Value} : (a.put dst v).defers = a.defers := by cases dst <;> rfl

theorem Arr.alloc {w : World} {size : Nat} {v : Value} {n : Nat} {xs : List Value} (h : Arr w size v n xs) (o : Obj) : Arr (w.alloc o) size v n xs := h.later ((Later.refl _).alloc o)
theorem arr_new {W : World} {g : Nat} {t : TypeId} {xs : List Value} {n size : Nat} (h : g = W.heap.size) (hn : xs.length = n * size) (hm : n ≤ maxLen) : Arr (W.alloc (.cells xs.toArray t)) size (.slice (some ⟨g, 0, none⟩) n n) n xs := h ▸ Arr.new W t xs n size hn hm
theorem Arr.drew {w : World} {size : Nat} {v : Value} {n : Nat} {xs : List Value} (h : Arr w size v n xs) : Arr w.drew size v n xs := h.later (Later.refl _).drew
/-- the specials that are left, in each order that their edges allow, each from any later world, at the act in which all calls and reads are done; then R -/
def wpSo (P : Program) (md : Region.Mode) (ops : Array Oper) (w0 : World) (R : Act → World → Prop) : Nat → List Nat → Act → World → Prop
  | 0, rem, F, w => rem = [] ∧ ∀ w', Later w w' → R F w'
  | n + 1, rem, F, w => (rem = [] → ∀ w', Later w w' → R F w') ∧ ∀ i ∈ rem, (rem.all fun j => !Region.waitsFor md ops i j) = true → ∀ w', Later w w' → ∃ o, ops[i]? = some o ∧
      if Region.wanted o (yielded ops F.tmps) then o.wp P F w' (fun F' w'' => Later w0 w'' ∧ wpSo P md ops w0 R n (rem.erase i) F' w'') (fun _ _ _ => False) else wpSo P md ops w0 R n (rem.erase i) (F.put o.dst undef) w'

theorem wpSo_nil {R : Act → World → Prop} {F : Act} {w w0 : World} {n : Nat} (h : ∀ x, R F (latr w x)) : wpSo P md ops w0 R n [] F w := by
  have h' : ∀ w', Later w w' → R F w' := fun w' hl => by
    obtain ⟨x, rfl⟩ := is_latr hl
    exact h x
  cases n with
  | zero => exact ⟨rfl, h'⟩
  | succ n => exact ⟨fun _ => h', fun i hi => (by cases hi)⟩
/-- which of those that are left may come up -/
def minis (md : Region.Mode) (ops : Array Oper) (rem : List Nat) : List Nat := rem.filter fun i => rem.all fun j => !Region.waitsFor md ops i j
theorem wpSo_step {R : Act → World → Prop} {F : Act} {w w0 : World} {n : Nat} {rem : List Nat} (ms : List Nat) (hms : minis md ops rem = ms) (hne : rem ≠ [])
    (h : ∀ i ∈ ms, ∀ (x : Lat w) (K : Act → World → Prop), (∀ a w, Later w0 w → wpSo P md ops w0 R n (rem.erase i) a w → K a w) → ∃ o, ops[i]? = some o ∧
      if Region.wanted o (yielded ops F.tmps) then o.wp P F (latr w x) K (fun _ _ _ => False) else wpSo P md ops w0 R n (rem.erase i) (F.put o.dst undef) (latr w x)) : wpSo P md ops w0 R (n + 1) rem F w := by
  refine ⟨fun h0 => absurd h0 hne, fun i hi hm w' hl => ?_⟩
  obtain ⟨x, rfl⟩ := is_latr hl
  exact h i (by rw [← hms]; exact List.mem_filter.2 ⟨hi, hm⟩) x _ (fun _ _ h1 h2 => ⟨h1, h2⟩)
theorem spec_one {R : Act → World → Prop} {F : Act} {w0 W : World} {n : Nat} {rem : List Nat} {i : Nat} {K : Act → World → Prop} {o : Oper} (ho : ops[i]? = some o) (hg : o.guard = none)
    (h : o.wp P F (W) K (fun _ _ _ => False)) : ∃ o, ops[i]? = some o ∧ if Region.wanted o (yielded ops F.tmps) then o.wp P F (W) K (fun _ _ _ => False) else wpSo P md ops w0 R n (rem.erase i) (F.put o.dst undef) (W) :=
  ⟨o, ho, by rw [if_pos (by simp [Region.wanted, hg])]; exact h⟩
theorem spec_on {R : Act → World → Prop} {F : Act} {w0 W : World} {n : Nat} {rem : List Nat} {i : Nat} {K : Act → World → Prop} {o : Oper} (ho : ops[i]? = some o) (hg : Region.wanted o (yielded ops F.tmps) = true)
    (h : o.wp P F (W) K (fun _ _ _ => False)) : ∃ o, ops[i]? = some o ∧ if Region.wanted o (yielded ops F.tmps) then o.wp P F (W) K (fun _ _ _ => False) else wpSo P md ops w0 R n (rem.erase i) (F.put o.dst undef) (W) :=
  ⟨o, ho, by rw [if_pos hg]; exact h⟩
theorem wpSo_later {R : Act → World → Prop} {F : Act} {w w1 w0 : World} {n : Nat} {l : List Nat} (h : wpSo P md ops w0 R n l F w) (hl : Later w w1) : wpSo P md ops w0 R n l F w1 := by
  cases n with
  | zero => exact ⟨h.1, fun w' h' => h.2 w' (hl.trans h')⟩
  | succ n => exact ⟨fun h0 w' h' => h.1 h0 w' (hl.trans h'), fun i hi hm w' h' => h.2 i hi hm w' (hl.trans h')⟩

/-- a special, from the full act to the act at hand -/
theorem wp_over {o : Oper} {F a : Act} {w : World} {K K' : Act → World → Prop} {Q : Exit → Act → World → Prop} (he : execOp a.eval o = execOp F.eval o) (hd : a.defers = F.defers)
    (hK : ∀ ds v w', K ({ F with defers := ds }.put o.dst v) w' → K' ({ a with defers := ds }.put o.dst v) w') (hh : o.wp P F w K (fun _ _ _ => False)) : o.wp P a w K' Q := by
  have hK0 : ∀ v w', K (F.put o.dst v) w' → K' (a.put o.dst v) w' := fun v w' h => by
    have := hK F.defers v w' h
    rw [← hd] at this
    exact this
  unfold Oper.wp at *
  rw [he]
  generalize (execOp F.eval o).run P w = r at *
  cases r with
  | ok n w' =>
    cases n <;> simp only [Oper.upon] at hh ⊢
    case value v => exact hK0 _ _ hh
    case skip => exact hK0 _ _ hh
    case defer d => rw [hd]; exact hK _ _ _ hh
    case enter f args =>
      refine hh.mono fun e w'' h => ?_
      cases e with
      | returned v => exact hK0 _ _ h
      | panicked c => exact h.elim
      | outgrown => obtain ⟨_, _, h⟩ := h; exact h.elim
    case row r args => exact hh.mono fun v w'' h => hK0 _ _ h
  | halt e w' =>
    cases e <;> simp only [Oper.upon] at hh

/-- what the walk of the calls and reads shows of one of them -/
theorem walk_at {C : World → Prop} {af : Act} (l1 : List Oper) (o : Oper) (l2 : List Oper) : ∀ (a : Act), wpQuiet P ops C (fun a' => a' = af) (l1 ++ o :: l2) a →
    ∃ a1 v, YieldsIn P ops C o v a1 ∧ (∀ t, (∀ o' ∈ l1, o'.dst ≠ some t) → a1.tmps[t]? = a.tmps[t]?) ∧ (∀ t, (∀ o' ∈ o :: l2, o'.dst ≠ some t) → af.tmps[t]? = a1.tmps[t]?) ∧
      (∀ t, (∀ o' ∈ l2, o'.dst ≠ some t) → af.tmps[t]? = (a1.put o.dst v).tmps[t]?) ∧ a1.tmps.size = a.tmps.size := by
  have one : ∀ (o : Oper) (l : List Oper) (a : Act), wpQuiet P ops C (fun a' => a' = af) (o :: l) a → ∃ v, YieldsIn P ops C o v a ∧ wpQuiet P ops C (fun a' => a' = af) l (a.put o.dst v) := by
    intro o l a h
    unfold wpQuiet at h
    by_cases hw : Region.wanted o (yielded ops a.tmps) = true
    · rw [if_pos hw] at h
      obtain ⟨v, h1, h2⟩ := h
      exact ⟨v, .inl ⟨hw, h1⟩, h2⟩
    · rw [if_neg hw] at h
      exact ⟨undef, .inr ⟨by simpa using hw, rfl⟩, h⟩
  have rest : ∀ (l : List Oper) (a : Act), wpQuiet P ops C (fun a' => a' = af) l a → ∀ t, (∀ o' ∈ l, o'.dst ≠ some t) → af.tmps[t]? = a.tmps[t]? := by
    intro l
    induction l with
    | nil => intro a h t _; rw [show a = af from h]
    | cons o l ih =>
      intro a h t hd
      obtain ⟨v, _, h2⟩ := one o l a h
      rw [ih _ h2 t (fun o' ho' => hd o' (List.mem_cons_of_mem _ ho')), put_ne (hd o (List.mem_cons_self ..))]
  induction l1 with
  | nil =>
    intro a h
    obtain ⟨v, hy, h2⟩ := one o l2 a h
    refine ⟨a, v, hy, fun _ _ => rfl, fun t hd => ?_, fun t hd => rest _ _ h2 t hd, rfl⟩
    rw [rest _ _ h2 t (fun o' ho' => hd o' (List.mem_cons_of_mem _ ho')), put_ne (hd o (List.mem_cons_self ..))]
  | cons p l1 ih =>
    intro a h
    obtain ⟨v, _, h2⟩ := one p _ a h
    obtain ⟨a1, v1, g1, g2, g3, g4, g5⟩ := ih _ h2
    refine ⟨a1, v1, g1, fun t hd => ?_, g3, g4, g5.trans put_size⟩
    rw [g2 t (fun o' ho' => hd o' (List.mem_cons_of_mem _ ho')), put_ne (hd p (List.mem_cons_self ..))]
theorem walk_ends {C : World → Prop} {af : Act} (l : List Oper) : ∀ (a : Act), wpQuiet P ops C (fun a' => a' = af) l a → af.tmps.size = a.tmps.size ∧ af.defers = a.defers ∧ ∀ t, (∀ o' ∈ l, o'.dst ≠ some t) → af.tmps[t]? = a.tmps[t]? := by
  induction l with
  | nil => intro a h; obtain rfl : a = af := h; exact ⟨rfl, rfl, fun _ _ => rfl⟩
  | cons o l ih =>
    intro a h
    have : ∃ v, wpQuiet P ops C (fun a' => a' = af) l (a.put o.dst v) := by
      unfold wpQuiet at h
      by_cases hw : Region.wanted o (yielded ops a.tmps) = true
      · rw [if_pos hw] at h
        obtain ⟨v, _, h2⟩ := h
        exact ⟨v, h2⟩
      · rw [if_neg hw] at h
        exact ⟨undef, h⟩
    obtain ⟨v, h2⟩ := this
    obtain ⟨g1, g2, g3⟩ := ih _ h2
    refine ⟨g1.trans put_size, g2.trans put_defers, fun t hd => ?_⟩
    rw [g3 t (fun o' ho' => hd o' (List.mem_cons_of_mem _ ho')), put_ne (hd o (List.mem_cons_self ..))]

def Region.floatB (md : Region.Mode) (ops : Array Oper) (σ : List Nat) : Bool :=
  Region.noSelect ops && (List.range ops.size).all fun j => match ops[j]? with
    | none => true
    | some oj => (oj.after.all fun e => !Region.binds md e || decide (e.on < j)) && (List.range ops.size).all fun i => match ops[i]? with
      | none => true
      | some oi => match oi.dst with
        | none => true
        | some d => (decide (i = j) || oj.dst != some d) && (!(oj.looksAt ops).contains d || (Region.waitsFor md ops j i && (σ.contains j || !σ.contains i)) || (Region.waitsFor md ops i j && !σ.contains j))

structure FloatOk (md : Region.Mode) (ops : Array Oper) (σ : List Nat) : Prop where
  sel : Region.noSelect ops = true
  edges : ∀ (j : Nat) (oj : Oper), ops[j]? = some oj → ∀ e ∈ oj.after, Region.binds md e = true → e.on < j
  dist : ∀ (i j : Nat) (oi oj : Oper) (d : Nat), ops[i]? = some oi → ops[j]? = some oj → oi.dst = some d → oj.dst = some d → i = j
  looks : ∀ (i j : Nat) (oi oj : Oper) (d : Nat), ops[i]? = some oi → ops[j]? = some oj → oi.dst = some d → d ∈ oj.looksAt ops →
    (Region.waitsFor md ops j i = true ∧ (j ∈ σ ∨ i ∉ σ)) ∨ (Region.waitsFor md ops i j = true ∧ j ∉ σ)

theorem floatOk {σ : List Nat} (h : Region.floatB md ops σ = true) : FloatOk md ops σ := by
  simp only [Region.floatB, Bool.and_eq_true, List.all_eq_true, List.mem_range] at h
  obtain ⟨h1, h3⟩ := h
  have lt : ∀ {j : Nat} {oj : Oper}, ops[j]? = some oj → j < ops.size := fun hj => (Array.getElem?_eq_some_iff.1 hj).1
  have h4 : ∀ j oj, ops[j]? = some oj → (∀ e ∈ oj.after, Region.binds md e = true → e.on < j) ∧ ∀ i oi d, ops[i]? = some oi → oi.dst = some d →
      (oj.dst = some d → i = j) ∧ (d ∈ oj.looksAt ops → (Region.waitsFor md ops j i = true ∧ (j ∈ σ ∨ i ∉ σ)) ∨ (Region.waitsFor md ops i j = true ∧ j ∉ σ)) := by
    intro j oj hj
    have h5 := h3 j (lt hj)
    simp only [hj, Bool.and_eq_true, List.all_eq_true, List.mem_range, Array.all_eq_true_iff_forall_mem] at h5
    refine ⟨fun e he hb => ?_, fun i oi d hi hd => ?_⟩
    · have := h5.1 e he
      simpa [hb] using this
    · have h6 := h5.2 i (lt hi)
      simp only [hi, hd, Bool.and_eq_true, Bool.or_eq_true] at h6
      refine ⟨fun he => ?_, fun hl => ?_⟩
      · have := h6.1
        simpa [he] using this
      · have := h6.2
        simp only [List.contains_iff_mem] at this
        rcases this with (h7 | h7) | h7
        · simp [hl] at h7
        · refine .inl ⟨h7.1, ?_⟩
          simpa using h7.2
        · refine .inr ⟨h7.1, ?_⟩
          simpa using h7.2
  exact ⟨h1, fun j oj hj => (h4 j oj hj).1, fun i j oi oj d hi hj hd he => ((h4 j oj hj).2 i oi d hi hd).1 he, fun i j oi oj d hi hj hd hl => ((h4 j oj hj).2 i oi d hi hd).2 hl⟩

/-- the calls and reads, one by one: each gives its value in every later world -/
def Each (P : Program) (ops : Array Oper) (σ : List Nat) (w : World) (a af : Act) : Prop :=
  ∀ (j : Nat) (oj : Oper), ops[j]? = some oj → j ∉ σ → ∀ u, Later w u → ∃ a1 v, YieldsIn P ops (Later u) oj v a1 ∧
    (∀ t, (∀ (i : Nat) oi, ops[i]? = some oi → i ∉ σ → i < j → oi.dst ≠ some t) → a1.tmps[t]? = a.tmps[t]?) ∧
    (∀ t, (∀ (i : Nat) oi, ops[i]? = some oi → i ∉ σ → j ≤ i → oi.dst ≠ some t) → af.tmps[t]? = a1.tmps[t]?) ∧
    (∀ t, (∀ (i : Nat) oi, ops[i]? = some oi → i ∉ σ → j < i → oi.dst ≠ some t) → af.tmps[t]? = (a1.put oj.dst v).tmps[t]?) ∧ a1.tmps.size = a.tmps.size

/-- how far a drawn order has come -/
structure Sofar (md : Region.Mode) (ops : Array Oper) (σ : List Nat) (a af F ak : Act) (done : Array Bool) : Prop where
  size : done.size = ops.size
  closed : ∀ (j : Nat) (oj : Oper), ops[j]? = some oj → done.getD j true = true → ∀ e ∈ oj.after, Region.binds md e = true → done.getD e.on true = true
  sizeF : F.tmps.size = a.tmps.size
  sizeK : ak.tmps.size = a.tmps.size
  defers : ak.defers = F.defers
  r1 : ∀ (j : Nat) (oj : Oper) (t : Nat), ops[j]? = some oj → oj.dst = some t → done.getD j true = true → ak.tmps[t]? = F.tmps[t]?
  r2 : ∀ t, (∀ (j : Nat) oj, ops[j]? = some oj → done.getD j true = true → oj.dst ≠ some t) → ak.tmps[t]? = a.tmps[t]?
  r3 : ∀ t, (∀ (j : Nat) oj, ops[j]? = some oj → j ∈ σ → done.getD j true = true → oj.dst ≠ some t) → F.tmps[t]? = af.tmps[t]?

theorem getD_set_at {done : Array Bool} {i : Nat} : (done.setIfInBounds i true).getD i true = true := by
  rcases Nat.lt_or_ge i done.size with h | h
  · simp [h]
  · simp [h]
theorem getD_true_of {done : Array Bool} {i : Nat} (h : done.getD i false = true) : done.getD i true = true := by
  rcases Nat.lt_or_ge i done.size with h' | h'
  · simp [h'] at h ⊢; exact h
  · simp [Array.getElem?_eq_none h']
theorem getD_false_of {done : Array Bool} {i : Nat} (h : done.getD i true = true) (hi : i < done.size) : done.getD i false = true := by
  simp [hi] at h ⊢; exact h
theorem done_set {done : Array Bool} {i j : Nat} (h : (done.setIfInBounds i true).getD j true = true) : j = i ∨ done.getD j true = true := by
  by_cases hij : i = j
  · exact .inl hij.symm
  · rw [getD_set_ne true hij] at h; exact .inr h
theorem done_mono {done : Array Bool} {i j : Nat} (h : done.getD j true = true) : (done.setIfInBounds i true).getD j true = true := by
  by_cases hij : i = j
  · subst hij; exact getD_set_at
  · rw [getD_set_ne true hij]; exact h

section
variable {σ : List Nat} {a af F ak : Act} {done : Array Bool} {w : World}
/-- one more operation done: F' and a' -/
theorem Sofar.next {F' a' : Act} {i : Nat} {oi : Oper} (ok : FloatOk md ops σ) (h : Sofar md ops σ a af F ak done) (hi : ops[i]? = some oi) (hun : done.getD i true = false)
    (hall : ∀ e ∈ oi.after, Region.binds md e = true → done.getD e.on false = true) (sF : F'.tmps.size = F.tmps.size) (sK : a'.tmps.size = ak.tmps.size) (hd : a'.defers = F'.defers)
    (fF : ∀ t, oi.dst ≠ some t → F'.tmps[t]? = F.tmps[t]?) (fK : ∀ t, oi.dst ≠ some t → a'.tmps[t]? = ak.tmps[t]?) (hat : ∀ t, oi.dst = some t → a'.tmps[t]? = F'.tmps[t]?)
    (hq : i ∉ σ → ∀ t : Nat, F'.tmps[t]? = F.tmps[t]?) : Sofar md ops σ a af F' a' (done.setIfInBounds i true) where
  size := by simp [h.size]
  closed j oj hj hdn e he hb := by
    rcases done_set hdn with rfl | hdn
    · obtain rfl : oi = oj := Option.some.inj (hi.symm.trans hj)
      exact done_mono (getD_true_of (hall e he hb))
    · exact done_mono (h.closed j oj hj hdn e he hb)
  sizeF := sF.trans h.sizeF
  sizeK := sK.trans h.sizeK
  defers := hd
  r1 j oj t hj ht hdn := by
    by_cases hji : j = i
    · subst hji
      obtain rfl : oi = oj := Option.some.inj (hi.symm.trans hj)
      exact hat t ht
    · have hdn' : done.getD j true = true := (done_set hdn).resolve_left hji
      have hne : oi.dst ≠ some t := fun e => hji (ok.dist j i oj oi t hj hi ht e)
      rw [fF t hne, fK t hne]
      exact h.r1 j oj t hj ht hdn'
  r2 t ht := by
    rw [fK t (ht i oi hi getD_set_at)]
    exact h.r2 t fun j oj hj hdn => ht j oj hj (done_mono hdn)
  r3 t ht := by
    by_cases hs : i ∈ σ
    · rw [fF t (ht i oi hi hs getD_set_at)]
      exact h.r3 t fun j oj hj hjs hdn => ht j oj hj hjs (done_mono hdn)
    · rw [hq hs t]
      exact h.r3 t fun j oj hj hjs hdn => ht j oj hj hjs (done_mono hdn)

/-- a call or a read comes up -/
theorem Sofar.quiet {j : Nat} {oj : Oper} (ok : FloatOk md ops σ) (E : Each P ops σ w a af) (h : Sofar md ops σ a af F ak done) (hj : ops[j]? = some oj) (hjs : j ∉ σ) (hun : done.getD j true = false)
    (hall : ∀ e ∈ oj.after, Region.binds md e = true → done.getD e.on false = true) {wk : World} (hl : Later w wk) :
    ∃ v, YieldsIn P ops (Later wk) oj v ak ∧ Sofar md ops σ a af F (ak.put oj.dst v) (done.setIfInBounds j true) := by
  obtain ⟨a1, v, hy, g2, g3, g4, g5⟩ := E j oj hj hjs wk hl
  have hlook : ∀ d ∈ oj.looksAt ops, ak.tmps[d]? = a1.tmps[d]? := by
    intro d hd
    by_cases hex : ∃ (i : Nat) (oi : Oper), ops[i]? = some oi ∧ oi.dst = some d
    · obtain ⟨i, oi, hi, hid⟩ := hex
      rcases ok.looks i j oi oj d hi hj hid hd with ⟨hw, hs⟩ | ⟨hw, _⟩
      · have his : i ∉ σ := hs.resolve_left hjs
        obtain ⟨oj', hoj', e, he, hb, hon⟩ := Region.waitsFor_spec hw
        obtain rfl : oj = oj' := Option.some.inj (hj.symm.trans hoj')
        have hdn : done.getD i true = true := by rw [← hon]; exact getD_true_of (hall e he hb)
        have hlt : i < j := by rw [← hon]; exact ok.edges j oj hj e he hb
        rw [h.r1 i oi d hi hid hdn, h.r3 d (fun k ok' hk hks _ hkd => his ((ok.dist k i ok' oi d hk hi hkd hid) ▸ hks)), g3 d (fun k ok' hk _ hjk hkd => by
          have := ok.dist k i ok' oi d hk hi hkd hid
          omega)]
      · obtain ⟨oi', hoi', e, he, hb, hon⟩ := Region.waitsFor_spec hw
        obtain rfl : oi = oi' := Option.some.inj (hi.symm.trans hoi')
        have hlt : j < i := by rw [← hon]; exact ok.edges i oi hi e he hb
        have hiu : ¬ done.getD i true = true := fun hdn => by
          have := h.closed i oi hi hdn e he hb
          rw [hon, hun] at this
          cases this
        rw [h.r2 d (fun k ok' hk hkdn hkd => hiu ((ok.dist k i ok' oi d hk hi hkd hid) ▸ hkdn)), g2 d (fun k ok' hk _ hkj hkd => by
          have := ok.dist k i ok' oi d hk hi hkd hid
          omega)]
    · have hno : ∀ (i : Nat) (oi : Oper), ops[i]? = some oi → oi.dst ≠ some d := fun i oi hi hid => hex ⟨i, oi, hi, hid⟩
      rw [h.r2 d (fun k ok' hk _ => hno k ok' hk), g2 d (fun k ok' hk _ _ => hno k ok' hk)]
  have hsel := Region.noSelect_spec ok.sel
  refine ⟨v, hy.of_same (exec_same (fun cs b => hsel j oj cs b hj) hlook) (wanted_same hlook), h.next ok hj hun hall rfl put_size (put_defers.trans h.defers) (fun _ _ => rfl) (fun t ht => put_ne ht) (fun t ht => ?_) (fun _ _ => rfl)⟩
  have e1 : F.tmps[t]? = af.tmps[t]? := h.r3 t (fun k ok' hk hks _ hkd => hjs ((ok.dist k j ok' oj t hk hj hkd ht) ▸ hks))
  have e2 : af.tmps[t]? = (a1.put oj.dst v).tmps[t]? := g4 t (fun k ok' hk _ hjk hkd => by
    have := ok.dist k j ok' oj t hk hj hkd ht
    omega)
  rw [e1, e2, ht]
  rcases Nat.lt_or_ge t a.tmps.size with hlt | hge
  · rw [put_eq (by rw [h.sizeK]; exact hlt), put_eq (by rw [g5]; exact hlt)]
  · rw [Array.getElem?_eq_none (by rw [put_size, h.sizeK]; exact hge), Array.getElem?_eq_none (by rw [put_size, g5]; exact hge)]

/-- what a special looks at is as in the full act -/
theorem Sofar.special {j : Nat} {oj : Oper} (ok : FloatOk md ops σ) (haf : ∀ t, (∀ (i : Nat) oi, ops[i]? = some oi → i ∉ σ → oi.dst ≠ some t) → af.tmps[t]? = a.tmps[t]?) (h : Sofar md ops σ a af F ak done) (hj : ops[j]? = some oj) (hjs : j ∈ σ)
    (hall : ∀ e ∈ oj.after, Region.binds md e = true → done.getD e.on false = true) : ∀ d ∈ oj.looksAt ops, ak.tmps[d]? = F.tmps[d]? := by
  intro d hd
  by_cases hex : ∃ (i : Nat) (oi : Oper), ops[i]? = some oi ∧ oi.dst = some d
  · obtain ⟨i, oi, hi, hid⟩ := hex
    rcases ok.looks i j oi oj d hi hj hid hd with ⟨hw, _⟩ | ⟨_, hn⟩
    · obtain ⟨oj', hoj', e, he, hb, hon⟩ := Region.waitsFor_spec hw
      obtain rfl : oj = oj' := Option.some.inj (hj.symm.trans hoj')
      exact h.r1 i oi d hi hid (by rw [← hon]; exact getD_true_of (hall e he hb))
    · exact absurd hjs hn
  · have hno : ∀ (i : Nat) (oi : Oper), ops[i]? = some oi → oi.dst ≠ some d := fun i oi hi hid => hex ⟨i, oi, hi, hid⟩
    rw [h.r2 d (fun k ok' hk _ => hno k ok' hk), h.r3 d (fun k ok' hk _ _ => hno k ok' hk), haf d (fun k ok' hk _ => hno k ok' hk)]

theorem Sofar.full (haf : ∀ t, (∀ (i : Nat) oi, ops[i]? = some oi → i ∉ σ → oi.dst ≠ some t) → af.tmps[t]? = a.tmps[t]?) (h : Sofar md ops σ a af F ak done) (hall : ∀ j, j < ops.size → done.getD j true = true) : ak = F := by
  have ht : ak.tmps = F.tmps := by
    refine Array.ext_getElem? fun t => ?_
    by_cases hex : ∃ (i : Nat) (oi : Oper), ops[i]? = some oi ∧ oi.dst = some t
    · obtain ⟨i, oi, hi, hid⟩ := hex
      exact h.r1 i oi t hi hid (hall i (Array.getElem?_eq_some_iff.1 hi).1)
    · have hno : ∀ (i : Nat) (oi : Oper), ops[i]? = some oi → oi.dst ≠ some t := fun i oi hi hid => hex ⟨i, oi, hi, hid⟩
      rw [h.r2 t (fun k ok' hk _ => hno k ok' hk), h.r3 t (fun k ok' hk _ _ => hno k ok' hk), haf t (fun k ok' hk _ => hno k ok' hk)]
  obtain ⟨kt, kd⟩ := ak
  obtain ⟨ft, fd⟩ := F
  have hd : kd = fd := h.defers
  subst ht hd
  rfl
end

theorem all_done {σ : List Nat} {done : Array Bool} (ok : FloatOk md ops σ) (hs : done.size = ops.size) (h : Region.ready md ops done = []) : ∀ j, j < ops.size → done.getD j true = true := by
  intro j
  induction j using Nat.strongRecOn with
  | _ j ih =>
    intro hj
    cases hun : done.getD j true with
    | true => rfl
    | false =>
      have hoj : ops[j]? = some ops[j] := Array.getElem?_eq_getElem hj
      have : j ∈ Region.ready md ops done := mem_ready.2 ⟨hun, _, hoj, fun e he hb => by
        have hlt := ok.edges j _ hoj e he hb
        exact getD_false_of (ih e.on hlt (by omega)) (by omega)⟩
      rw [h] at this
      cases this

theorem wpAny_spec {σ : List Nat} {a af : Act} {w : World} {Q : Exit → Act → World → Prop} {R : Act → World → Prop} (hR : ∀ F w', R F w' → Q .normal F w') (ok : FloatOk md ops σ) (E : Each P ops σ w a af)
    (haf : ∀ t, (∀ (i : Nat) oi, ops[i]? = some oi → i ∉ σ → oi.dst ≠ some t) → af.tmps[t]? = a.tmps[t]?) : ∀ (n : Nat) (und : List Nat) (done : Array Bool) (F ak : Act) (wk : World) (m : Nat) (r : List Nat), und.length = n →
      (∀ j, j < ops.size → done.getD j true = false → j ∈ und) → Sofar md ops σ a af F ak done → Later w wk → r.Nodup → r.length ≤ m → (∀ i ∈ σ, done.getD i true = false → i ∈ r) → (∀ i ∈ r, i ∈ σ ∧ done.getD i true = false) →
      wpSo P md ops w R m r F wk → wpAny P md ops Q n done ak wk := by
  intro n
  have fin : ∀ (done : Array Bool) (F ak : Act) (wk : World) (m : Nat) (r : List Nat), Sofar md ops σ a af F ak done → (∀ i ∈ r, i ∈ σ ∧ done.getD i true = false) → wpSo P md ops w R m r F wk → (∀ j, j < ops.size → done.getD j true = true) → Q .normal ak wk := by
    intro done F ak wk m r hS hr hsp hd
    cases r with
    | nil =>
      rw [hS.full haf hd]
      cases m with
      | zero => exact hR _ _ (hsp.2 wk (Later.refl _))
      | succ m => exact hR _ _ (hsp.1 rfl wk (Later.refl _))
    | cons s r =>
      have h1 := (hr s (List.mem_cons_self ..)).2
      rcases Nat.lt_or_ge s ops.size with h | h
      · rw [hd s h] at h1; cases h1
      · rw [← hS.size] at h; simp [Array.getElem?_eq_none h] at h1
  induction n with
  | zero =>
    intro und done F ak wk m r hu hun hS hl hnd hm hσ hr hsp
    obtain rfl := List.eq_nil_of_length_eq_zero hu
    have hd : ∀ j, j < ops.size → done.getD j true = true := fun j hj => by
      cases h : done.getD j true with
      | true => rfl
      | false => exact absurd (hun j hj h) (by simp)
    refine ⟨?_, fin done F ak wk m r hS hr hsp hd⟩
    refine List.eq_nil_iff_forall_not_mem.2 fun j hj => ?_
    obtain ⟨h1, o, ho, _⟩ := mem_ready.1 hj
    rw [hd j (Array.getElem?_eq_some_iff.1 ho).1] at h1
    cases h1
  | succ n ih =>
    intro und done F ak wk m r hu hun hS hl hnd hm hσ hr hsp
    refine ⟨fun h0 => fin done F ak wk m r hS hr hsp (all_done ok hS.size h0), fun i hi => ?_⟩
    obtain ⟨hiu, oi, hoi, hall⟩ := mem_ready.1 hi
    have him : i ∈ und := hun i (Array.getElem?_eq_some_iff.1 hoi).1 hiu
    have hlen : (und.erase i).length = n := by rw [List.length_erase_of_mem him, hu]; rfl
    have hun' : ∀ j, j < ops.size → (done.setIfInBounds i true).getD j true = false → j ∈ und.erase i := by
      intro j hj hjd
      by_cases hij : i = j
      · subst hij; rw [getD_set_at] at hjd; cases hjd
      · rw [getD_set_ne true hij] at hjd
        exact (List.mem_erase_of_ne (Ne.symm hij)).2 (hun j hj hjd)
    have keep : ∀ j, (done.setIfInBounds i true).getD j true = false → done.getD j true = false := by
      intro j hjd
      by_cases hij : i = j
      · subst hij; rw [getD_set_at] at hjd; cases hjd
      · rwa [getD_set_ne true hij] at hjd
    by_cases his : i ∈ σ
    · have hir := hσ i his hiu
      cases m with
      | zero => obtain ⟨h0, _⟩ := hsp; rw [h0] at hir; cases hir
      | succ m =>
        have hmin : (r.all fun j => !Region.waitsFor md ops i j) = true := by
          rw [List.all_eq_true]
          intro j hj
          cases hw : Region.waitsFor md ops i j with
          | false => rfl
          | true =>
            obtain ⟨oj, hoj, e, he, hb, hon⟩ := Region.waitsFor_spec hw
            obtain rfl : oi = oj := Option.some.inj (hoi.symm.trans hoj)
            have h1 := getD_true_of (hall e he hb)
            rw [hon, (hr j hj).2] at h1
            cases h1
        have hlook := hS.special ok haf hoi his hall
        have hsel := Region.noSelect_spec ok.sel
        obtain ⟨o, ho, hcase⟩ := hsp.2 i hir hmin wk (Later.refl _)
        obtain rfl : oi = o := Option.some.inj (hoi.symm.trans ho)
        have hσ' : ∀ j ∈ σ, (done.setIfInBounds i true).getD j true = false → j ∈ r.erase i := fun j hj hjd => by
          have hji : j ≠ i := by rintro rfl; rw [getD_set_at] at hjd; cases hjd
          exact (List.mem_erase_of_ne hji).2 (hσ j hj (keep j hjd))
        have hr' : ∀ j ∈ r.erase i, j ∈ σ ∧ (done.setIfInBounds i true).getD j true = false := fun j hj => by
          have hji : j ≠ i := by rintro rfl; exact hnd.not_mem_erase hj
          have hjr := List.mem_of_mem_erase hj
          refine ⟨(hr j hjr).1, ?_⟩
          rw [getD_set_ne true (Ne.symm hji)]
          exact (hr j hjr).2
        have hm' : (r.erase i).length ≤ m := by rw [List.length_erase_of_mem hir]; omega
        have go : ∀ ds v w', Later w w' → wpSo P md ops w R m (r.erase i) ({ F with defers := ds }.put oi.dst v) w' → wpAny P md ops Q n (done.setIfInBounds i true) ({ ak with defers := ds }.put oi.dst v) w' := by
          intro ds v w' hl' hsp'
          refine ih (und.erase i) _ ({ F with defers := ds }.put oi.dst v) _ w' m (r.erase i) hlen hun' (hS.next (F' := { F with defers := ds }.put oi.dst v) (a' := { ak with defers := ds }.put oi.dst v) ok hoi hiu hall put_size put_size ?_ (fun t ht => put_ne ht) (fun t ht => put_ne ht) (fun t ht => ?_) (fun h => absurd his h)) hl' (hnd.erase i) hm' hσ' hr' hsp'
          · rw [put_defers, put_defers]
          · rw [ht]
            rcases Nat.lt_or_ge t a.tmps.size with hlt | hge
            · rw [put_eq (by show t < ak.tmps.size; rw [hS.sizeK]; exact hlt), put_eq (by show t < F.tmps.size; rw [hS.sizeF]; exact hlt)]
            · rw [Array.getElem?_eq_none (by rw [put_size]; show ak.tmps.size ≤ t; rw [hS.sizeK]; exact hge), Array.getElem?_eq_none (by rw [put_size]; show F.tmps.size ≤ t; rw [hS.sizeF]; exact hge)]
        unfold wpOp
        simp only [hoi]
        rw [wanted_same hlook]
        split
        · rename_i hw
          rw [if_pos hw] at hcase
          exact .inl (wp_over (exec_same (fun cs b => hsel i oi cs b hoi) hlook) hS.defers (fun ds v w' h => go ds v w' h.1 h.2) hcase)
        · rename_i hw
          rw [if_neg hw] at hcase
          have := go F.defers undef wk hl hcase
          rw [← hS.defers] at this
          exact this
    · obtain ⟨v, hy, hS'⟩ := hS.quiet ok E hoi his hiu hall hl
      have q : qOp P ops (Later wk) i (fun a' => a' = ak.put oi.dst v) ak := hy.qOp hoi rfl
      refine wpOp_of_qOp (C := Later wk) (Later.refl _) (fun a' w' hl' e => ?_) q
      subst e
      refine ih (und.erase i) _ F _ w' m r hlen hun' hS' (hl.trans hl') hnd hm (fun j hj hjd => hσ j hj (keep j hjd)) (fun j hj => ⟨(hr j hj).1, ?_⟩) (wpSo_later hsp hl')
      rw [getD_set_ne true (fun (e : i = j) => his (by rw [e]; exact (hr j hj).1))]
      exact (hr j hj).2

theorem cls_eq (u : World) : (fun w' => ∃ y : Lat u, w' = latr u y) = Later u :=
  funext fun _ => propext ⟨fun ⟨y, e⟩ => by rw [e]; exact y.is, fun h => is_latr h⟩

/-- the calls and reads, in the order of the text: all but the specials -/
def pickQ (σ : List Nat) : Nat → List Oper → List Oper
  | _, [] => []
  | k, o :: l => if σ.contains k then pickQ σ (k + 1) l else o :: pickQ σ (k + 1) l
theorem pickQ_mem {σ : List Nat} (l : List Oper) : ∀ (k : Nat) (o : Oper), o ∈ pickQ σ k l → ∃ i, i ∉ σ ∧ k ≤ i ∧ l[i - k]? = some o := by
  induction l with
  | nil => intro k o h; cases h
  | cons p l ih =>
    intro k o h
    have up : (o ∈ pickQ σ (k + 1) l) → ∃ i, i ∉ σ ∧ k ≤ i ∧ (p :: l)[i - k]? = some o := fun h => by
      obtain ⟨i, h1, h2, h3⟩ := ih (k + 1) o h
      refine ⟨i, h1, by omega, ?_⟩
      rw [show i - k = i - (k + 1) + 1 by omega, List.getElem?_cons_succ]
      exact h3
    unfold pickQ at h
    split at h
    · exact up h
    · rename_i hk
      rcases List.mem_cons.1 h with rfl | h
      · exact ⟨k, by simpa using hk, Nat.le_refl _, by simp⟩
      · exact up h
theorem pickQ_split {σ : List Nat} (l : List Oper) : ∀ (k j : Nat) (oj : Oper), k ≤ j → l[j - k]? = some oj → j ∉ σ → ∃ l1 l2, pickQ σ k l = l1 ++ oj :: l2 ∧ (∀ o ∈ l1, ∃ i, i ∉ σ ∧ k ≤ i ∧ i < j ∧ l[i - k]? = some o) ∧ (∀ o ∈ l2, ∃ i, i ∉ σ ∧ j < i ∧ l[i - k]? = some o) := by
  induction l with
  | nil => intro k j oj _ h; simp at h
  | cons p l ih =>
    intro k j oj hkj h hj
    by_cases hjk : j = k
    · subst hjk
      obtain rfl : p = oj := by simpa using h
      refine ⟨[], pickQ σ (j + 1) l, ?_, by simp, fun o ho => ?_⟩
      · rw [pickQ, if_neg (by simpa using hj)]; rfl
      · obtain ⟨i, h1, h2, h3⟩ := pickQ_mem l (j + 1) o ho
        refine ⟨i, h1, by omega, ?_⟩
        rw [show i - j = i - (j + 1) + 1 by omega, List.getElem?_cons_succ]
        exact h3
    · rw [show j - k = j - (k + 1) + 1 by omega, List.getElem?_cons_succ] at h
      obtain ⟨l1, l2, e, g1, g2⟩ := ih (k + 1) j oj (by omega) h hj
      have g2' : ∀ o ∈ l2, ∃ i, i ∉ σ ∧ j < i ∧ (p :: l)[i - k]? = some o := fun o ho => by
        obtain ⟨i, h1, h2, h3⟩ := g2 o ho
        refine ⟨i, h1, h2, ?_⟩
        rw [show i - k = i - (k + 1) + 1 by omega, List.getElem?_cons_succ]
        exact h3
      have g1' : ∀ o ∈ l1, ∃ i, i ∉ σ ∧ k ≤ i ∧ i < j ∧ (p :: l)[i - k]? = some o := fun o ho => by
        obtain ⟨i, h1, h2, h3, h4⟩ := g1 o ho
        refine ⟨i, h1, by omega, h3, ?_⟩
        rw [show i - k = i - (k + 1) + 1 by omega, List.getElem?_cons_succ]
        exact h4
      by_cases hks : σ.contains k
      · exact ⟨l1, l2, by rw [pickQ, if_pos hks]; exact e, g1', g2'⟩
      · refine ⟨p :: l1, l2, by rw [pickQ, if_neg hks, e]; rfl, fun o ho => ?_, g2'⟩
        rcases List.mem_cons.1 ho with rfl | ho
        · exact ⟨k, by simpa using hks, Nat.le_refl _, by omega, by simp⟩
        · exact g1' o ho

/-- THE REGION: σ: its specials -/
theorem wp_region_spec {id : Nat} {Q : Exit → Act → World → Prop} {a : Act} {w : World} {l : List Oper} (σ : List Nat) (af : Act) (R : Act → Act → World → Prop) (hm : P.follows .mixedOrders = true)
    (hB : (Region.floatB .any l.toArray σ && decide σ.Nodup && σ.all fun i => decide (i < l.length)) = true)
    (h : ∀ u, Later w u → wpQuiet P l.toArray (fun w' => ∃ y, w' = latr u y) (fun a' => a' = af) (pickQ σ 0 l) a)
    (hs : wpSo P .any l.toArray w (R af) σ.length σ af w.drew) (hR : ∀ F w', R af F w' → Q .normal F w') : (Code.region id l.toArray true).wp P Q a w := by
  simp only [Bool.and_eq_true, decide_eq_true_eq, List.all_eq_true] at hB
  obtain ⟨⟨hB, hnd⟩, hlt⟩ := hB
  have ok := floatOk hB
  have hops : ∀ (i : Nat) (o : Oper), l.toArray[i]? = some o ↔ l[i]? = some o := fun i o => by simp
  obtain ⟨z1, z2, z3⟩ := walk_ends _ a (h w (Later.refl w))
  have haf : ∀ t, (∀ (i : Nat) oi, l.toArray[i]? = some oi → i ∉ σ → oi.dst ≠ some t) → af.tmps[t]? = a.tmps[t]? := fun t ht => z3 t fun o ho => by
    obtain ⟨i, h1, _, h3⟩ := pickQ_mem l 0 o ho
    exact ht i o ((hops i o).2 (by simpa using h3)) h1
  have E : Each P l.toArray σ w a af := by
    intro j oj hj hjs u hu
    obtain ⟨l1, l2, e, m1, m2⟩ := pickQ_split (σ := σ) l 0 j oj (Nat.zero_le _) (by simpa using (hops j oj).1 hj) hjs
    have hx := h u hu
    rw [cls_eq, e] at hx
    obtain ⟨a1, v, g1, g2, g3, g4, g5⟩ := walk_at _ _ _ a hx
    refine ⟨a1, v, g1, fun t ht => g2 t fun o ho => ?_, fun t ht => g3 t fun o ho => ?_, fun t ht => g4 t fun o ho => ?_, g5⟩
    · obtain ⟨i, h1, _, h3, h4⟩ := m1 o ho
      exact ht i o ((hops i o).2 (by simpa using h4)) h1 h3
    · rcases List.mem_cons.1 ho with rfl | ho
      · exact ht j _ hj hjs (Nat.le_refl _)
      · obtain ⟨i, h1, h3, h4⟩ := m2 o ho
        exact ht i o ((hops i o).2 (by simpa using h4)) h1 (by omega)
    · obtain ⟨i, h1, h3, h4⟩ := m2 o ho
      exact ht i o ((hops i o).2 (by simpa using h4)) h1 h3
  have hund : ∀ j, j < l.toArray.size → (Array.replicate l.toArray.size false).getD j true = false := fun j hj => getD_in (by simpa using hj) (getD_replicate_false _ _)
  refine wp_region_any hm ?_
  refine wpAny_spec (σ := σ) (a := a) (af := af) (w := w) (R := R af) hR ok E haf l.toArray.size (List.range l.toArray.size) _ af a w.drew σ.length σ (by simp) (fun j hj _ => List.mem_range.2 hj) ?_ (Later.refl _).drew hnd (Nat.le_refl _) (fun i hi _ => hi) (fun i hi => ⟨hi, hund i ?_⟩) hs
  · refine ⟨by simp, fun j oj hj hdn => ?_, z1, rfl, z2.symm, fun j oj t hj _ hdn => ?_, fun _ _ => rfl, fun _ _ => rfl⟩
    · rw [hund j (Array.getElem?_eq_some_iff.1 hj).1] at hdn; cases hdn
    · rw [hund j (Array.getElem?_eq_some_iff.1 hj).1] at hdn; cases hdn
  · simpa using hlt i hi
end
end Go.Proofs.Ytnidpncacgknkaa
