/- A region that draws its order, in which some operations (an alloc, a store, an assign: 'specials') float between calls and reads: the calls and reads are walked once, in the order of the text, for every later world; the specials in their own order, each from any later world. No condition. -/
import Derived.Test.YtfjofifkepmdfaaTail
namespace Go.Proofs.Ytfjofifkepmdfaa
open Go.RowKit

section
variable {P : Program} {ops : Array Oper} {md : Region.Mode}

theorem exec_same {o : Oper} (hs : ∀ cs b, o.op ≠ .select cs b) {a a' : Act} (h : ∀ d ∈ o.looksAt ops, a.tmps[d]? = a'.tmps[d]?) : execOp a.eval o = execOp a'.eval o :=
  execOp_congr o hs fun x hx => by
    cases x with
    | tmp t =>
      have := h t (by unfold Oper.looksAt; exact List.mem_append_left _ (List.mem_filterMap.2 ⟨.tmp t, by simpa using hx, rfl⟩))
      simp only [Act.eval, Array.getD_eq_getD_getElem?, this]
    | const v => rfl
    | global g => rfl
    | func f => rfl
theorem wanted_same {o : Oper} {a a' : Act} (h : ∀ d ∈ o.looksAt ops, a.tmps[d]? = a'.tmps[d]?) : Region.wanted o (yielded ops a.tmps) = Region.wanted o (yielded ops a'.tmps) := by
  unfold Region.wanted
  cases hg : o.guard with
  | none => rfl
  | some gw =>
    obtain ⟨g, want⟩ := gw
    have hy : yielded ops a.tmps g = yielded ops a'.tmps g := by
      unfold yielded
      cases ht : (ops[g]?).bind (·.dst) with
      | none => rfl
      | some t => simp [h t (by simp [Oper.looksAt, hg, ht])]
    simp only [hy]
theorem put_ne {a : Act} {dst : Option Tmp} {v : Value} {t : Nat} (h : dst ≠ some t) : (a.put dst v).tmps[t]? = a.tmps[t]? := by
  cases dst with
  | none => rfl
  | some d => exact Array.getElem?_setIfInBounds_ne (fun e => h (by rw [e]))
theorem put_eq {a : Act} {v : Value} {t : Nat} (h : t < a.tmps.size) : (a.put (some t) v).tmps[t]? = some v := by
  simp [Act.put, h]
theorem put_size {a : Act} {dst : Option Tmp} {v : Value} : (a.put dst v).tmps.size = a.tmps.size := by
  cases dst with
  | none => rfl
  | some d => simp [Act.put]
theorem put_defers {a : Act} {dst : Option Tmp} {v : Value} : (a.put dst v).defers = a.defers := by cases dst <;> rfl

/-- the specials, each from any later world, at the act in which all calls and reads are done -/
def wpSp (P : Program) (ops : Array Oper) (Q : Exit → Act → World → Prop) (w0 : World) : List Nat → Act → World → Prop
  | [], F, w => ∀ w', Later w w' → Q .normal F w'
  | i :: l, F, w => ∀ w', Later w w' → ∃ o, ops[i]? = some o ∧
      if Region.wanted o (yielded ops F.tmps) then o.wp P F w' (fun F' w'' => Later w0 w'' ∧ wpSp P ops Q w0 l F' w'') (fun _ _ _ => False) else wpSp P ops Q w0 l (F.put o.dst undef) w'

theorem wpSp_nil {Q : Exit → Act → World → Prop} {F : Act} {w w0 : World} (h : ∀ x, Q .normal F (latr w x)) : wpSp P ops Q w0 [] F w := fun w' hl => by
  obtain ⟨x, rfl⟩ := is_latr hl
  exact h x
theorem wpSp_step {Q : Exit → Act → World → Prop} {F : Act} {w w0 : World} {i : Nat} {l : List Nat} {o : Oper} (ho : ops[i]? = some o) (hg : o.guard = none)
    (h : ∀ (x : Lat w) (K : Act → World → Prop), (∀ a w, Later w0 w → wpSp P ops Q w0 l a w → K a w) → o.wp P F (latr w x) K (fun _ _ _ => False)) : wpSp P ops Q w0 (i :: l) F w := fun w' hl => by
  obtain ⟨x, rfl⟩ := is_latr hl
  refine ⟨o, ho, ?_⟩
  rw [if_pos (by simp [Region.wanted, hg])]
  exact h x _ (fun _ _ h1 h2 => ⟨h1, h2⟩)
theorem wpSp_later {Q : Exit → Act → World → Prop} {F : Act} {w w1 w0 : World} {l : List Nat} (h : wpSp P ops Q w0 l F w) (hl : Later w w1) : wpSp P ops Q w0 l F w1 := by
  cases l with
  | nil => exact fun w' h' => h w' (hl.trans h')
  | cons i l => exact fun w' h' => h w' (hl.trans h')

/-- a special, from the full act to the act at hand -/
theorem wp_over {o : Oper} {F a : Act} {w : World} {K K' : Act → World → Prop} {Q : Exit → Act → World → Prop} (he : execOp a.eval o = execOp F.eval o) (hd : a.defers = F.defers)
    (hK : ∀ ds v w', K ({ F with defers := ds }.put o.dst v) w' → K' ({ a with defers := ds }.put o.dst v) w') (hh : o.wp P F w K (fun _ _ _ => False)) : o.wp P a w K' Q := by
  have hK0 : ∀ v w', K (F.put o.dst v) w' → K' (a.put o.dst v) w' := fun v w' h => by
    have := hK F.defers v w' h
    rw [← hd] at this
    exact this
  unfold Oper.wp at *
  rw [he]
  generalize (execOp F.eval o).run P w = r at *
  cases r with
  | ok n w' =>
    cases n <;> simp only [Oper.upon] at hh ⊢
    case value v => exact hK0 _ _ hh
    case skip => exact hK0 _ _ hh
    case defer d => rw [hd]; exact hK _ _ _ hh
    case enter f args =>
      refine hh.mono fun e w'' h => ?_
      cases e with
      | returned v => exact hK0 _ _ h
      | panicked c => exact h.elim
      | outgrown => obtain ⟨_, _, h⟩ := h; exact h.elim
    case row r args => exact hh.mono fun v w'' h => hK0 _ _ h
  | halt e w' =>
    cases e <;> simp only [Oper.upon] at hh

/-- what the walk of the calls and reads shows of one of them -/
theorem walk_at {C : World → Prop} {af : Act} (l1 : List Oper) (o : Oper) (l2 : List Oper) : ∀ (a : Act), wpQuiet P ops C (fun a' => a' = af) (l1 ++ o :: l2) a →
    ∃ a1 v, YieldsIn P ops C o v a1 ∧ (∀ t, (∀ o' ∈ l1, o'.dst ≠ some t) → a1.tmps[t]? = a.tmps[t]?) ∧ (∀ t, (∀ o' ∈ o :: l2, o'.dst ≠ some t) → af.tmps[t]? = a1.tmps[t]?) ∧
      (∀ t, (∀ o' ∈ l2, o'.dst ≠ some t) → af.tmps[t]? = (a1.put o.dst v).tmps[t]?) ∧ a1.tmps.size = a.tmps.size := by
  have one : ∀ (o : Oper) (l : List Oper) (a : Act), wpQuiet P ops C (fun a' => a' = af) (o :: l) a → ∃ v, YieldsIn P ops C o v a ∧ wpQuiet P ops C (fun a' => a' = af) l (a.put o.dst v) := by
    intro o l a h
    unfold wpQuiet at h
    by_cases hw : Region.wanted o (yielded ops a.tmps) = true
    · rw [if_pos hw] at h
      obtain ⟨v, h1, h2⟩ := h
      exact ⟨v, .inl ⟨hw, h1⟩, h2⟩
    · rw [if_neg hw] at h
      exact ⟨undef, .inr ⟨by simpa using hw, rfl⟩, h⟩
  have rest : ∀ (l : List Oper) (a : Act), wpQuiet P ops C (fun a' => a' = af) l a → ∀ t, (∀ o' ∈ l, o'.dst ≠ some t) → af.tmps[t]? = a.tmps[t]? := by
    intro l
    induction l with
    | nil => intro a h t _; rw [show a = af from h]
    | cons o l ih =>
      intro a h t hd
      obtain ⟨v, _, h2⟩ := one o l a h
      rw [ih _ h2 t (fun o' ho' => hd o' (List.mem_cons_of_mem _ ho')), put_ne (hd o (List.mem_cons_self ..))]
  induction l1 with
  | nil =>
    intro a h
    obtain ⟨v, hy, h2⟩ := one o l2 a h
    refine ⟨a, v, hy, fun _ _ => rfl, fun t hd => ?_, fun t hd => rest _ _ h2 t hd, rfl⟩
    rw [rest _ _ h2 t (fun o' ho' => hd o' (List.mem_cons_of_mem _ ho')), put_ne (hd o (List.mem_cons_self ..))]
  | cons p l1 ih =>
    intro a h
    obtain ⟨v, _, h2⟩ := one p _ a h
    obtain ⟨a1, v1, g1, g2, g3, g4, g5⟩ := ih _ h2
    refine ⟨a1, v1, g1, fun t hd => ?_, g3, g4, g5.trans put_size⟩
    rw [g2 t (fun o' ho' => hd o' (List.mem_cons_of_mem _ ho')), put_ne (hd p (List.mem_cons_self ..))]
theorem walk_ends {C : World → Prop} {af : Act} (l : List Oper) : ∀ (a : Act), wpQuiet P ops C (fun a' => a' = af) l a → af.tmps.size = a.tmps.size ∧ af.defers = a.defers ∧ ∀ t, (∀ o' ∈ l, o'.dst ≠ some t) → af.tmps[t]? = a.tmps[t]? := by
  induction l with
  | nil => intro a h; obtain rfl : a = af := h; exact ⟨rfl, rfl, fun _ _ => rfl⟩
  | cons o l ih =>
    intro a h
    have : ∃ v, wpQuiet P ops C (fun a' => a' = af) l (a.put o.dst v) := by
      unfold wpQuiet at h
      by_cases hw : Region.wanted o (yielded ops a.tmps) = true
      · rw [if_pos hw] at h
        obtain ⟨v, _, h2⟩ := h
        exact ⟨v, h2⟩
      · rw [if_neg hw] at h
        exact ⟨undef, h⟩
    obtain ⟨v, h2⟩ := this
    obtain ⟨g1, g2, g3⟩ := ih _ h2
    refine ⟨g1.trans put_size, g2.trans put_defers, fun t hd => ?_⟩
    rw [g3 t (fun o' ho' => hd o' (List.mem_cons_of_mem _ ho')), put_ne (hd o (List.mem_cons_self ..))]

def Region.chainL (md : Region.Mode) (ops : Array Oper) : List Nat → Bool
  | s :: l => (match l with | s' :: _ => Region.waitsFor md ops s' s | [] => true) && Region.chainL md ops l
  | [] => true
def Region.floatB (md : Region.Mode) (ops : Array Oper) (σ : List Nat) : Bool :=
  Region.noSelect ops && Region.chainL md ops σ && (List.range ops.size).all fun j => match ops[j]? with
    | none => true
    | some oj => (oj.after.all fun e => !Region.binds md e || decide (e.on < j)) && (List.range ops.size).all fun i => match ops[i]? with
      | none => true
      | some oi => match oi.dst with
        | none => true
        | some d => (decide (i = j) || oj.dst != some d) && (!(oj.looksAt ops).contains d || (Region.waitsFor md ops j i && (σ.contains j || !σ.contains i)) || (Region.waitsFor md ops i j && !σ.contains j))

structure FloatOk (md : Region.Mode) (ops : Array Oper) (σ : List Nat) : Prop where
  sel : Region.noSelect ops = true
  chain : Region.chainL md ops σ = true
  edges : ∀ (j : Nat) (oj : Oper), ops[j]? = some oj → ∀ e ∈ oj.after, Region.binds md e = true → e.on < j
  dist : ∀ (i j : Nat) (oi oj : Oper) (d : Nat), ops[i]? = some oi → ops[j]? = some oj → oi.dst = some d → oj.dst = some d → i = j
  looks : ∀ (i j : Nat) (oi oj : Oper) (d : Nat), ops[i]? = some oi → ops[j]? = some oj → oi.dst = some d → d ∈ oj.looksAt ops →
    (Region.waitsFor md ops j i = true ∧ (j ∈ σ ∨ i ∉ σ)) ∨ (Region.waitsFor md ops i j = true ∧ j ∉ σ)

theorem floatOk {σ : List Nat} (h : Region.floatB md ops σ = true) : FloatOk md ops σ := by
  simp only [Region.floatB, Bool.and_eq_true, List.all_eq_true, List.mem_range] at h
  obtain ⟨⟨h1, h2⟩, h3⟩ := h
  have lt : ∀ {j : Nat} {oj : Oper}, ops[j]? = some oj → j < ops.size := fun hj => (Array.getElem?_eq_some_iff.1 hj).1
  have h4 : ∀ j oj, ops[j]? = some oj → (∀ e ∈ oj.after, Region.binds md e = true → e.on < j) ∧ ∀ i oi d, ops[i]? = some oi → oi.dst = some d →
      (oj.dst = some d → i = j) ∧ (d ∈ oj.looksAt ops → (Region.waitsFor md ops j i = true ∧ (j ∈ σ ∨ i ∉ σ)) ∨ (Region.waitsFor md ops i j = true ∧ j ∉ σ)) := by
    intro j oj hj
    have h5 := h3 j (lt hj)
    simp only [hj, Bool.and_eq_true, List.all_eq_true, List.mem_range, Array.all_eq_true_iff_forall_mem] at h5
    refine ⟨fun e he hb => ?_, fun i oi d hi hd => ?_⟩
    · have := h5.1 e he
      simpa [hb] using this
    · have h6 := h5.2 i (lt hi)
      simp only [hi, hd, Bool.and_eq_true, Bool.or_eq_true] at h6
      refine ⟨fun he => ?_, fun hl => ?_⟩
      · have := h6.1
        simpa [he] using this
      · have := h6.2
        simp only [List.contains_iff_mem] at this
        rcases this with (h7 | h7) | h7
        · simp [hl] at h7
        · refine .inl ⟨h7.1, ?_⟩
          simpa using h7.2
        · refine .inr ⟨h7.1, ?_⟩
          simpa using h7.2
  exact ⟨h1, h2, fun j oj hj => (h4 j oj hj).1, fun i j oi oj d hi hj hd he => ((h4 j oj hj).2 i oi d hi hd).1 he, fun i j oi oj d hi hj hd hl => ((h4 j oj hj).2 i oi d hi hd).2 hl⟩

theorem chain_mem (s : Nat) (l : List Nat) : ∀ (_ : Region.chainL md ops (s :: l) = true) (i : Nat), i ∈ l → ∃ p ∈ s :: l, Region.waitsFor md ops i p = true := by
  induction l generalizing s with
  | nil => intro _ i hi; cases hi
  | cons t l ih =>
    intro h i hi
    simp only [Region.chainL, Bool.and_eq_true] at h
    rcases List.mem_cons.1 hi with rfl | hi
    · exact ⟨s, List.mem_cons_self .., h.1⟩
    · obtain ⟨p, hp, hw⟩ := ih t (by simp only [Region.chainL, Bool.and_eq_true]; exact h.2) i hi
      exact ⟨p, List.mem_cons_of_mem _ hp, hw⟩
theorem chain_tail {s : Nat} {l : List Nat} (h : Region.chainL md ops (s :: l) = true) : Region.chainL md ops l = true := by
  simp only [Region.chainL, Bool.and_eq_true] at h
  exact h.2

/-- the calls and reads, one by one: each gives its value in every later world -/
def Each (P : Program) (ops : Array Oper) (σ : List Nat) (w : World) (a af : Act) : Prop :=
  ∀ (j : Nat) (oj : Oper), ops[j]? = some oj → j ∉ σ → ∀ u, Later w u → ∃ a1 v, YieldsIn P ops (Later u) oj v a1 ∧
    (∀ t, (∀ (i : Nat) oi, ops[i]? = some oi → i ∉ σ → i < j → oi.dst ≠ some t) → a1.tmps[t]? = a.tmps[t]?) ∧
    (∀ t, (∀ (i : Nat) oi, ops[i]? = some oi → i ∉ σ → j ≤ i → oi.dst ≠ some t) → af.tmps[t]? = a1.tmps[t]?) ∧
    (∀ t, (∀ (i : Nat) oi, ops[i]? = some oi → i ∉ σ → j < i → oi.dst ≠ some t) → af.tmps[t]? = (a1.put oj.dst v).tmps[t]?) ∧ a1.tmps.size = a.tmps.size

/-- how far a drawn order has come -/
structure Sofar (md : Region.Mode) (ops : Array Oper) (σ : List Nat) (a af F ak : Act) (done : Array Bool) : Prop where
  size : done.size = ops.size
  closed : ∀ (j : Nat) (oj : Oper), ops[j]? = some oj → done.getD j true = true → ∀ e ∈ oj.after, Region.binds md e = true → done.getD e.on true = true
  sizeF : F.tmps.size = a.tmps.size
  sizeK : ak.tmps.size = a.tmps.size
  defers : ak.defers = F.defers
  r1 : ∀ (j : Nat) (oj : Oper) (t : Nat), ops[j]? = some oj → oj.dst = some t → done.getD j true = true → ak.tmps[t]? = F.tmps[t]?
  r2 : ∀ t, (∀ (j : Nat) oj, ops[j]? = some oj → done.getD j true = true → oj.dst ≠ some t) → ak.tmps[t]? = a.tmps[t]?
  r3 : ∀ t, (∀ (j : Nat) oj, ops[j]? = some oj → j ∈ σ → done.getD j true = true → oj.dst ≠ some t) → F.tmps[t]? = af.tmps[t]?

theorem getD_set_at {done : Array Bool} {i : Nat} : (done.setIfInBounds i true).getD i true = true := by
  rcases Nat.lt_or_ge i done.size with h | h
  · simp [h]
  · simp [h]
theorem getD_true_of {done : Array Bool} {i : Nat} (h : done.getD i false = true) : done.getD i true = true := by
  rcases Nat.lt_or_ge i done.size with h' | h'
  · simp [h'] at h ⊢; exact h
  · simp [Array.getElem?_eq_none h']
theorem getD_false_of {done : Array Bool} {i : Nat} (h : done.getD i true = true) (hi : i < done.size) : done.getD i false = true := by
  simp [hi] at h ⊢; exact h
theorem done_set {done : Array Bool} {i j : Nat} (h : (done.setIfInBounds i true).getD j true = true) : j = i ∨ done.getD j true = true := by
  by_cases hij : i = j
  · exact .inl hij.symm
  · rw [getD_set_ne true hij] at h; exact .inr h
theorem done_mono {done : Array Bool} {i j : Nat} (h : done.getD j true = true) : (done.setIfInBounds i true).getD j true = true := by
  by_cases hij : i = j
  · subst hij; exact getD_set_at
  · rw [getD_set_ne true hij]; exact h

section
variable {σ : List Nat} {a af F ak : Act} {done : Array Bool} {w : World}
/-- one more operation done: F' and a' -/
theorem Sofar.next {F' a' : Act} {i : Nat} {oi : Oper} (ok : FloatOk md ops σ) (h : Sofar md ops σ a af F ak done) (hi : ops[i]? = some oi) (hun : done.getD i true = false)
    (hall : ∀ e ∈ oi.after, Region.binds md e = true → done.getD e.on false = true) (sF : F'.tmps.size = F.tmps.size) (sK : a'.tmps.size = ak.tmps.size) (hd : a'.defers = F'.defers)
    (fF : ∀ t, oi.dst ≠ some t → F'.tmps[t]? = F.tmps[t]?) (fK : ∀ t, oi.dst ≠ some t → a'.tmps[t]? = ak.tmps[t]?) (hat : ∀ t, oi.dst = some t → a'.tmps[t]? = F'.tmps[t]?)
    (hq : i ∉ σ → ∀ t : Nat, F'.tmps[t]? = F.tmps[t]?) : Sofar md ops σ a af F' a' (done.setIfInBounds i true) where
  size := by simp [h.size]
  closed j oj hj hdn e he hb := by
    rcases done_set hdn with rfl | hdn
    · obtain rfl : oi = oj := Option.some.inj (hi.symm.trans hj)
      exact done_mono (getD_true_of (hall e he hb))
    · exact done_mono (h.closed j oj hj hdn e he hb)
  sizeF := sF.trans h.sizeF
  sizeK := sK.trans h.sizeK
  defers := hd
  r1 j oj t hj ht hdn := by
    by_cases hji : j = i
    · subst hji
      obtain rfl : oi = oj := Option.some.inj (hi.symm.trans hj)
      exact hat t ht
    · have hdn' : done.getD j true = true := (done_set hdn).resolve_left hji
      have hne : oi.dst ≠ some t := fun e => hji (ok.dist j i oj oi t hj hi ht e)
      rw [fF t hne, fK t hne]
      exact h.r1 j oj t hj ht hdn'
  r2 t ht := by
    rw [fK t (ht i oi hi getD_set_at)]
    exact h.r2 t fun j oj hj hdn => ht j oj hj (done_mono hdn)
  r3 t ht := by
    by_cases hs : i ∈ σ
    · rw [fF t (ht i oi hi hs getD_set_at)]
      exact h.r3 t fun j oj hj hjs hdn => ht j oj hj hjs (done_mono hdn)
    · rw [hq hs t]
      exact h.r3 t fun j oj hj hjs hdn => ht j oj hj hjs (done_mono hdn)

/-- a call or a read comes up -/
theorem Sofar.quiet {j : Nat} {oj : Oper} (ok : FloatOk md ops σ) (E : Each P ops σ w a af) (h : Sofar md ops σ a af F ak done) (hj : ops[j]? = some oj) (hjs : j ∉ σ) (hun : done.getD j true = false)
    (hall : ∀ e ∈ oj.after, Region.binds md e = true → done.getD e.on false = true) {wk : World} (hl : Later w wk) :
    ∃ v, YieldsIn P ops (Later wk) oj v ak ∧ Sofar md ops σ a af F (ak.put oj.dst v) (done.setIfInBounds j true) := by
  obtain ⟨a1, v, hy, g2, g3, g4, g5⟩ := E j oj hj hjs wk hl
  have hlook : ∀ d ∈ oj.looksAt ops, ak.tmps[d]? = a1.tmps[d]? := by
    intro d hd
    by_cases hex : ∃ (i : Nat) (oi : Oper), ops[i]? = some oi ∧ oi.dst = some d
    · obtain ⟨i, oi, hi, hid⟩ := hex
      rcases ok.looks i j oi oj d hi hj hid hd with ⟨hw, hs⟩ | ⟨hw, _⟩
      · have his : i ∉ σ := hs.resolve_left hjs
        obtain ⟨oj', hoj', e, he, hb, hon⟩ := Region.waitsFor_spec hw
        obtain rfl : oj = oj' := Option.some.inj (hj.symm.trans hoj')
        have hdn : done.getD i true = true := by rw [← hon]; exact getD_true_of (hall e he hb)
        have hlt : i < j := by rw [← hon]; exact ok.edges j oj hj e he hb
        rw [h.r1 i oi d hi hid hdn, h.r3 d (fun k ok' hk hks _ hkd => his ((ok.dist k i ok' oi d hk hi hkd hid) ▸ hks)), g3 d (fun k ok' hk _ hjk hkd => by
          have := ok.dist k i ok' oi d hk hi hkd hid
          omega)]
      · obtain ⟨oi', hoi', e, he, hb, hon⟩ := Region.waitsFor_spec hw
        obtain rfl : oi = oi' := Option.some.inj (hi.symm.trans hoi')
        have hlt : j < i := by rw [← hon]; exact ok.edges i oi hi e he hb
        have hiu : ¬ done.getD i true = true := fun hdn => by
          have := h.closed i oi hi hdn e he hb
          rw [hon, hun] at this
          cases this
        rw [h.r2 d (fun k ok' hk hkdn hkd => hiu ((ok.dist k i ok' oi d hk hi hkd hid) ▸ hkdn)), g2 d (fun k ok' hk _ hkj hkd => by
          have := ok.dist k i ok' oi d hk hi hkd hid
          omega)]
    · have hno : ∀ (i : Nat) (oi : Oper), ops[i]? = some oi → oi.dst ≠ some d := fun i oi hi hid => hex ⟨i, oi, hi, hid⟩
      rw [h.r2 d (fun k ok' hk _ => hno k ok' hk), g2 d (fun k ok' hk _ _ => hno k ok' hk)]
  have hsel := Region.noSelect_spec ok.sel
  refine ⟨v, hy.of_same (exec_same (fun cs b => hsel j oj cs b hj) hlook) (wanted_same hlook), h.next ok hj hun hall rfl put_size (put_defers.trans h.defers) (fun _ _ => rfl) (fun t ht => put_ne ht) (fun t ht => ?_) (fun _ _ => rfl)⟩
  have e1 : F.tmps[t]? = af.tmps[t]? := h.r3 t (fun k ok' hk hks _ hkd => hjs ((ok.dist k j ok' oj t hk hj hkd ht) ▸ hks))
  have e2 : af.tmps[t]? = (a1.put oj.dst v).tmps[t]? := g4 t (fun k ok' hk _ hjk hkd => by
    have := ok.dist k j ok' oj t hk hj hkd ht
    omega)
  rw [e1, e2, ht]
  rcases Nat.lt_or_ge t a.tmps.size with hlt | hge
  · rw [put_eq (by rw [h.sizeK]; exact hlt), put_eq (by rw [g5]; exact hlt)]
  · rw [Array.getElem?_eq_none (by rw [put_size, h.sizeK]; exact hge), Array.getElem?_eq_none (by rw [put_size, g5]; exact hge)]

/-- what a special looks at is as in the full act -/
theorem Sofar.special {j : Nat} {oj : Oper} (ok : FloatOk md ops σ) (haf : ∀ t, (∀ (i : Nat) oi, ops[i]? = some oi → i ∉ σ → oi.dst ≠ some t) → af.tmps[t]? = a.tmps[t]?) (h : Sofar md ops σ a af F ak done) (hj : ops[j]? = some oj) (hjs : j ∈ σ)
    (hall : ∀ e ∈ oj.after, Region.binds md e = true → done.getD e.on false = true) : ∀ d ∈ oj.looksAt ops, ak.tmps[d]? = F.tmps[d]? := by
  intro d hd
  by_cases hex : ∃ (i : Nat) (oi : Oper), ops[i]? = some oi ∧ oi.dst = some d
  · obtain ⟨i, oi, hi, hid⟩ := hex
    rcases ok.looks i j oi oj d hi hj hid hd with ⟨hw, _⟩ | ⟨_, hn⟩
    · obtain ⟨oj', hoj', e, he, hb, hon⟩ := Region.waitsFor_spec hw
      obtain rfl : oj = oj' := Option.some.inj (hj.symm.trans hoj')
      exact h.r1 i oi d hi hid (by rw [← hon]; exact getD_true_of (hall e he hb))
    · exact absurd hjs hn
  · have hno : ∀ (i : Nat) (oi : Oper), ops[i]? = some oi → oi.dst ≠ some d := fun i oi hi hid => hex ⟨i, oi, hi, hid⟩
    rw [h.r2 d (fun k ok' hk _ => hno k ok' hk), h.r3 d (fun k ok' hk _ _ => hno k ok' hk), haf d (fun k ok' hk _ => hno k ok' hk)]

theorem Sofar.full (haf : ∀ t, (∀ (i : Nat) oi, ops[i]? = some oi → i ∉ σ → oi.dst ≠ some t) → af.tmps[t]? = a.tmps[t]?) (h : Sofar md ops σ a af F ak done) (hall : ∀ j, j < ops.size → done.getD j true = true) : ak = F := by
  have ht : ak.tmps = F.tmps := by
    refine Array.ext_getElem? fun t => ?_
    by_cases hex : ∃ (i : Nat) (oi : Oper), ops[i]? = some oi ∧ oi.dst = some t
    · obtain ⟨i, oi, hi, hid⟩ := hex
      exact h.r1 i oi t hi hid (hall i (Array.getElem?_eq_some_iff.1 hi).1)
    · have hno : ∀ (i : Nat) (oi : Oper), ops[i]? = some oi → oi.dst ≠ some t := fun i oi hi hid => hex ⟨i, oi, hi, hid⟩
      rw [h.r2 t (fun k ok' hk _ => hno k ok' hk), h.r3 t (fun k ok' hk _ _ => hno k ok' hk), haf t (fun k ok' hk _ => hno k ok' hk)]
  obtain ⟨kt, kd⟩ := ak
  obtain ⟨ft, fd⟩ := F
  have hd : kd = fd := h.defers
  subst ht hd
  rfl
end

theorem all_done {σ : List Nat} {done : Array Bool} (ok : FloatOk md ops σ) (hs : done.size = ops.size) (h : Region.ready md ops done = []) : ∀ j, j < ops.size → done.getD j true = true := by
  intro j
  induction j using Nat.strongRecOn with
  | _ j ih =>
    intro hj
    cases hun : done.getD j true with
    | true => rfl
    | false =>
      have hoj : ops[j]? = some ops[j] := Array.getElem?_eq_getElem hj
      have : j ∈ Region.ready md ops done := mem_ready.2 ⟨hun, _, hoj, fun e he hb => by
        have hlt := ok.edges j _ hoj e he hb
        exact getD_false_of (ih e.on hlt (by omega)) (by omega)⟩
      rw [h] at this
      cases this

theorem wpAny_float {σ : List Nat} {a af : Act} {w : World} {Q : Exit → Act → World → Prop} (ok : FloatOk md ops σ) (E : Each P ops σ w a af)
    (haf : ∀ t, (∀ (i : Nat) oi, ops[i]? = some oi → i ∉ σ → oi.dst ≠ some t) → af.tmps[t]? = a.tmps[t]?) : ∀ (n : Nat) (und : List Nat) (done : Array Bool) (F ak : Act) (wk : World) (r : List Nat), und.length = n →
      (∀ j, j < ops.size → done.getD j true = false → j ∈ und) → Sofar md ops σ a af F ak done → Later w wk → Region.chainL md ops r = true → r.Nodup → (∀ i ∈ σ, done.getD i true = false → i ∈ r) → (∀ i ∈ r, i ∈ σ ∧ done.getD i true = false) →
      wpSp P ops Q w r F wk → wpAny P md ops Q n done ak wk := by
  intro n
  have fin : ∀ (done : Array Bool) (F ak : Act) (wk : World) (r : List Nat), Sofar md ops σ a af F ak done → (∀ i ∈ r, i ∈ σ ∧ done.getD i true = false) → wpSp P ops Q w r F wk → (∀ j, j < ops.size → done.getD j true = true) → Q .normal ak wk := by
    intro done F ak wk r hS hr hsp hd
    cases r with
    | nil => rw [hS.full haf hd]; exact hsp wk (Later.refl _)
    | cons s r =>
      have h1 := (hr s (List.mem_cons_self ..)).2
      rcases Nat.lt_or_ge s ops.size with h | h
      · rw [hd s h] at h1; cases h1
      · rw [← hS.size] at h; simp [Array.getElem?_eq_none h] at h1
  induction n with
  | zero =>
    intro und done F ak wk r hu hun hS hl hc hnd hσ hr hsp
    obtain rfl := List.eq_nil_of_length_eq_zero hu
    have hd : ∀ j, j < ops.size → done.getD j true = true := fun j hj => by
      cases h : done.getD j true with
      | true => rfl
      | false => exact absurd (hun j hj h) (by simp)
    refine ⟨?_, fin done F ak wk r hS hr hsp hd⟩
    refine List.eq_nil_iff_forall_not_mem.2 fun j hj => ?_
    obtain ⟨h1, o, ho, _⟩ := mem_ready.1 hj
    rw [hd j (Array.getElem?_eq_some_iff.1 ho).1] at h1
    cases h1
  | succ n ih =>
    intro und done F ak wk r hu hun hS hl hc hnd hσ hr hsp
    refine ⟨fun h0 => fin done F ak wk r hS hr hsp (all_done ok hS.size h0), fun i hi => ?_⟩
    obtain ⟨hiu, oi, hoi, hall⟩ := mem_ready.1 hi
    have him : i ∈ und := hun i (Array.getElem?_eq_some_iff.1 hoi).1 hiu
    have hlen : (und.erase i).length = n := by rw [List.length_erase_of_mem him, hu]; rfl
    have hun' : ∀ j, j < ops.size → (done.setIfInBounds i true).getD j true = false → j ∈ und.erase i := by
      intro j hj hjd
      by_cases hij : i = j
      · subst hij; rw [getD_set_at] at hjd; cases hjd
      · rw [getD_set_ne true hij] at hjd
        exact (List.mem_erase_of_ne (Ne.symm hij)).2 (hun j hj hjd)
    have keep : ∀ j, (done.setIfInBounds i true).getD j true = false → done.getD j true = false := by
      intro j hjd
      by_cases hij : i = j
      · subst hij; rw [getD_set_at] at hjd; cases hjd
      · rwa [getD_set_ne true hij] at hjd
    by_cases his : i ∈ σ
    · have hir := hσ i his hiu
      cases r with
      | nil => cases hir
      | cons s r =>
        have his' : i = s := by
          rcases List.mem_cons.1 hir with h | h
          · exact h
          · obtain ⟨p, hp, hw⟩ := chain_mem s r hc i h
            obtain ⟨oj, hoj, e, he, hb, hon⟩ := Region.waitsFor_spec hw
            obtain rfl : oi = oj := Option.some.inj (hoi.symm.trans hoj)
            have h1 := getD_true_of (hall e he hb)
            rw [hon, (hr p hp).2] at h1
            cases h1
        subst his'
        have hlook := hS.special ok haf hoi his hall
        have hsel := Region.noSelect_spec ok.sel
        obtain ⟨o, ho, hcase⟩ := hsp wk (Later.refl _)
        obtain rfl : oi = o := Option.some.inj (hoi.symm.trans ho)
        obtain ⟨hsr, hnd'⟩ := List.nodup_cons.1 hnd
        have hσ' : ∀ j ∈ σ, (done.setIfInBounds i true).getD j true = false → j ∈ r := fun j hj hjd => by
          rcases List.mem_cons.1 (hσ j hj (keep j hjd)) with h | h
          · subst h; rw [getD_set_at] at hjd; cases hjd
          · exact h
        have hr' : ∀ j ∈ r, j ∈ σ ∧ (done.setIfInBounds i true).getD j true = false := fun j hj => by
          refine ⟨(hr j (List.mem_cons_of_mem _ hj)).1, ?_⟩
          rw [getD_set_ne true (fun (e : i = j) => hsr (by rw [e]; exact hj))]
          exact (hr j (List.mem_cons_of_mem _ hj)).2
        have go : ∀ ds v w', Later w w' → wpSp P ops Q w r ({ F with defers := ds }.put oi.dst v) w' → wpAny P md ops Q n (done.setIfInBounds i true) ({ ak with defers := ds }.put oi.dst v) w' := by
          intro ds v w' hl' hsp'
          refine ih (und.erase i) _ ({ F with defers := ds }.put oi.dst v) _ w' r hlen hun' (hS.next (F' := { F with defers := ds }.put oi.dst v) (a' := { ak with defers := ds }.put oi.dst v) ok hoi hiu hall put_size put_size ?_ (fun t ht => put_ne ht) (fun t ht => put_ne ht) (fun t ht => ?_) (fun h => absurd his h)) hl' (chain_tail hc) hnd' hσ' hr' hsp'
          · rw [put_defers, put_defers]
          · rw [ht]
            rcases Nat.lt_or_ge t a.tmps.size with hlt | hge
            · rw [put_eq (by show t < ak.tmps.size; rw [hS.sizeK]; exact hlt), put_eq (by show t < F.tmps.size; rw [hS.sizeF]; exact hlt)]
            · rw [Array.getElem?_eq_none (by rw [put_size]; show ak.tmps.size ≤ t; rw [hS.sizeK]; exact hge), Array.getElem?_eq_none (by rw [put_size]; show F.tmps.size ≤ t; rw [hS.sizeF]; exact hge)]
        unfold wpOp
        simp only [hoi]
        rw [wanted_same hlook]
        split
        · rename_i hw
          rw [if_pos hw] at hcase
          exact .inl (wp_over (exec_same (fun cs b => hsel i oi cs b hoi) hlook) hS.defers (fun ds v w' h => go ds v w' h.1 h.2) hcase)
        · rename_i hw
          rw [if_neg hw] at hcase
          have := go F.defers undef wk hl hcase
          rw [← hS.defers] at this
          exact this
    · obtain ⟨v, hy, hS'⟩ := hS.quiet ok E hoi his hiu hall hl
      have q : qOp P ops (Later wk) i (fun a' => a' = ak.put oi.dst v) ak := hy.qOp hoi rfl
      refine wpOp_of_qOp (C := Later wk) (Later.refl _) (fun a' w' hl' e => ?_) q
      subst e
      refine ih (und.erase i) _ F _ w' r hlen hun' hS' (hl.trans hl') hc hnd (fun j hj hjd => hσ j hj (keep j hjd)) (fun j hj => ⟨(hr j hj).1, ?_⟩) (wpSp_later hsp hl')
      rw [getD_set_ne true (fun (e : i = j) => his (by rw [e]; exact (hr j hj).1))]
      exact (hr j hj).2

theorem cls_eq (u : World) : (fun w' => ∃ y : Lat u, w' = latr u y) = Later u :=
  funext fun _ => propext ⟨fun ⟨y, e⟩ => by rw [e]; exact y.is, fun h => is_latr h⟩

/-- THE REGION: its last operations from number n on are the specials -/
theorem wp_region_float {id : Nat} {Q : Exit → Act → World → Prop} {a : Act} {w : World} {l : List Oper} (n : Nat) (af : Act) (hm : P.follows .mixedOrders = true)
    (hB : (Region.floatB .any l.toArray (List.range' n (l.length - n)) && decide (n ≤ l.length)) = true)
    (h : ∀ u, Later w u → wpQuiet P l.toArray (fun w' => ∃ y, w' = latr u y) (fun a' => a' = af) (l.take n) a)
    (hs : wpSp P l.toArray Q w (List.range' n (l.length - n)) af w.drew) : (Code.region id l.toArray true).wp P Q a w := by
  simp only [Bool.and_eq_true, decide_eq_true_eq] at hB
  obtain ⟨hB, hn⟩ := hB
  have ok := floatOk hB
  have hops : ∀ (i : Nat) (o : Oper), l.toArray[i]? = some o ↔ l[i]? = some o := fun i o => by simp
  have hnot : ∀ i, i < n → i ∉ List.range' n (l.length - n) := fun i hi hmem => by
    have := List.mem_range'_1.1 hmem
    omega
  have hyes : ∀ (i : Nat) (o : Oper), l.toArray[i]? = some o → i ∉ List.range' n (l.length - n) → i < n := fun i o hi hno => by
    rcases Nat.lt_or_ge i n with h | h
    · exact h
    · have := (Array.getElem?_eq_some_iff.1 hi).1
      exact absurd (List.mem_range'_1.2 ⟨h, by simp at this; omega⟩) hno
  have hmem : ∀ (l' : List Oper) (k m : Nat) (o : Oper), l' = (l.take m).drop k → o ∈ l' → ∃ i, k ≤ i ∧ i < m ∧ l.toArray[i]? = some o := by
    intro l' k m o hl' ho
    subst hl'
    obtain ⟨i, hi⟩ := List.mem_iff_getElem?.1 ho
    rw [List.getElem?_drop, List.getElem?_take] at hi
    split at hi
    · rename_i hlt
      exact ⟨k + i, by omega, hlt, by rw [hops]; exact hi⟩
    · cases hi
  obtain ⟨z1, z2, z3⟩ := walk_ends _ a (h w (Later.refl w))
  have haf : ∀ t, (∀ (i : Nat) oi, l.toArray[i]? = some oi → i ∉ List.range' n (l.length - n) → oi.dst ≠ some t) → af.tmps[t]? = a.tmps[t]? := fun t ht => z3 t fun o ho => by
    obtain ⟨i, _, hi, hio⟩ := hmem _ 0 n o (by simp) ho
    exact ht i o hio (hnot i hi)
  have E : Each P l.toArray (List.range' n (l.length - n)) w a af := by
    intro j oj hj hjs u hu
    have hjn := hyes j oj hj hjs
    have hjl : j < l.length := by omega
    have hoj : l[j] = oj := by
      have := (hops j oj).1 hj
      rw [List.getElem?_eq_getElem hjl] at this
      exact Option.some.inj this
    have hsplit : l.take n = l.take j ++ oj :: (l.take n).drop (j + 1) := by
      have e1 : (l.take n).take j = l.take j := by rw [List.take_take]; congr 1; omega
      have e2 : (l.take n).drop j = oj :: (l.take n).drop (j + 1) := by
        rw [List.drop_eq_getElem_cons (by simp; omega)]
        simp [hoj]
      rw [← e1, ← e2, List.take_append_drop]
    have hx := h u hu
    rw [cls_eq, hsplit] at hx
    obtain ⟨a1, v, g1, g2, g3, g4, g5⟩ := walk_at _ _ _ a hx
    refine ⟨a1, v, g1, fun t ht => g2 t fun o ho => ?_, fun t ht => g3 t fun o ho => ?_, fun t ht => g4 t fun o ho => ?_, g5⟩
    · obtain ⟨i, _, hi, hio⟩ := hmem _ 0 j o (by simp) ho
      exact ht i o hio (hnot i (by omega)) hi
    · rcases List.mem_cons.1 ho with rfl | ho
      · exact ht j _ hj hjs (Nat.le_refl _)
      · obtain ⟨i, h1, hi, hio⟩ := hmem _ (j + 1) n o rfl ho
        exact ht i o hio (hnot i hi) (by omega)
    · obtain ⟨i, h1, hi, hio⟩ := hmem _ (j + 1) n o rfl ho
      exact ht i o hio (hnot i hi) (by omega)
  have hund : ∀ j, j < l.toArray.size → (Array.replicate l.toArray.size false).getD j true = false := fun j hj => getD_in (by simpa using hj) (getD_replicate_false _ _)
  refine wp_region_any hm ?_
  refine wpAny_float (σ := List.range' n (l.length - n)) (a := a) (af := af) (w := w) ok E haf l.toArray.size (List.range l.toArray.size) _ af a w.drew (List.range' n (l.length - n)) (by simp) (fun j hj _ => List.mem_range.2 hj) ?_ (Later.refl _).drew ok.chain (List.nodup_range' ..) (fun i hi _ => hi) (fun i hi => ⟨hi, hund i ?_⟩) hs
  · refine ⟨by simp, fun j oj hj hdn => ?_, z1, rfl, z2.symm, fun j oj t hj _ hdn => ?_, fun _ _ => rfl, fun _ _ => rfl⟩
    · rw [hund j (Array.getElem?_eq_some_iff.1 hj).1] at hdn; cases hdn
    · rw [hund j (Array.getElem?_eq_some_iff.1 hj).1] at hdn; cases hdn
  · have := List.mem_range'_1.1 hi
    simp
    omega
end
end Go.Proofs.Ytfjofifkepmdfaa
